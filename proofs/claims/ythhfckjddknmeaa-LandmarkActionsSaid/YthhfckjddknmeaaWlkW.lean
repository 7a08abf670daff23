/- law36: walk, arrives. -/
import Derived.Test.YthhfckjddknmeaaMgD
import Derived.Test.YthhfckjddknmeaaMgC
import Derived.Test.YthhfckjddknmeaaMgA
import Derived.Deep.LoopGhost
namespace Go.Proofs.Ythhfckjddknmeaa
set_option linter.unusedSimpArgs false
set_option linter.unusedVariables false
open Go Go.RowKit
set_option linter.unusedVariables false

section

/-- Is operator k not forbidden; is the state not one with the fact a? -/
def opF (ops : List Int) (k : Nat) : Bool := !anyB ops.length fun i => nth ops i == (k : Int)
def faF (a : Int × Int) (s : List Int) : Bool := decide (a.1 < 0) || !decide (nth s a.1.toNat = a.2)
inductive Wlk (t : Tsk) (s0 : List Int) (a : Int × Int) (ops : List Int) : List Int → Prop
  | start : Wlk t s0 a ops s0
  | step {s : List Int} {k : Nat} : Wlk t s0 a ops s → k < t.ops.length → hoB (opr t.ops k).pre s = true → faF a (nxt t s k) = true → opF ops k = true → Wlk t s0 a ops (nxt t s k)
noncomputable def wlB (t : Tsk) (s0 : List Int) (a : Int × Int) (ops : List Int) (i : Nat) : Bool := @decide (Wlk t s0 a ops (row (sts t.vars) i)) (Classical.propDecidable _)
theorem wlB_iff {t : Tsk} {s0 : List Int} {a : Int × Int} {ops : List Int} {i : Nat} : wlB t s0 a ops i = true ↔ Wlk t s0 a ops (row (sts t.vars) i) := by unfold wlB; simp
/-- May the edge be taken? -/
def pmB (t : Tsk) (a : Int × Int) (ops : List Int) (e : Nat × Nat × Nat) : Bool := faF a (row (sts t.vars) e.2.2) && opF ops e.2.1
structure WlI (t : Tsk) (s0 : List Int) (a : Int × Int) (ops : List Int) (f : Nat → Bool) : Prop where
  st : f (num t s0) = true
  so : ∀ i, i < (sts t.vars).length → f i = true → Wlk t s0 a ops (row (sts t.vars) i)
section
variable {t : Tsk} {s0 : List Int} {a : Int × Int} {ops : List Int} {f : Nat → Bool}
theorem wlk_st (hr : Right t) (hs : stB t.vars s0 = true) {s : List Int} (h : Wlk t s0 a ops s) : stB t.vars s = true := by
  induction h with
  | start => exact hs
  | step _ hk _ _ _ ih => exact st_nxt' hr ih hk
theorem wl_start (hr : Right t) (hs : stB t.vars s0 = true) : WlI t s0 a ops (setF (fun _ => false) (num t s0)) :=
  ⟨by unfold setF; rw [if_pos rfl], fun i hi h => by
    unfold setF at h
    split at h
    · rename_i e; rw [e, sts_num hr hs]; exact Wlk.start
    · cases h⟩
theorem wl_mark (hr : Right t) (hs : stB t.vars s0 = true) (h : WlI t s0 a ops f) {e : Nat × Nat × Nat} (he : e ∈ edges t) (hf : f e.1 = true) (hp : pmB t a ops e = true) : WlI t s0 a ops (setF f e.2.2) := by
  obtain ⟨a1, a2, a3, a4, a5⟩ := egd_facts hr he
  unfold pmB at hp
  rw [Bool.and_eq_true] at hp
  refine ⟨?_, fun i hi hfi => ?_⟩
  · unfold setF; split
    · rfl
    · exact h.st
  · unfold setF at hfi
    split at hfi
    · rename_i e; subst e
      rw [a5]
      exact Wlk.step (h.so _ a1 hf) a2 a4 (by rw [← a5]; exact hp.1) hp.2
    · exact h.so i hi hfi
theorem wl_end (hr : Right t) (hs : stB t.vars s0 = true) (h : WlI t s0 a ops f) (hc : ∀ e ∈ edges t, f e.1 = true → pmB t a ops e = true → f e.2.2 = true) : ∀ i, i < (sts t.vars).length → f i = wlB t s0 a ops i := fun i hi => by
  rw [Bool.eq_iff_iff, wlB_iff]
  refine ⟨h.so i hi, fun hw => ?_⟩
  have key : ∀ s, Wlk t s0 a ops s → f (num t s) = true := by
    intro s hw
    induction hw with
    | start => exact h.st
    | @step s k hw hk hp ha ho ih =>
      have hst := wlk_st hr hs hw
      have hst2 := st_nxt' hr hst hk
      have hm : (num t s, k, num t (nxt t s k)) ∈ edges t := mem_edges.2 ⟨(num_eq hr hst).2, hk, by dsimp only; rw [sts_num hr hst]; exact hp, by dsimp only; rw [sts_num hr hst]⟩
      refine hc _ hm ih ?_
      unfold pmB
      dsimp only
      rw [sts_num hr hst2, ha, ho]; rfl
  have := key _ hw
  rwa [num_row hr hi] at this
/-- Does one of the marked states have all the facts? -/
noncomputable def arB36 (t : Tsk) (f : Nat → Bool) (l : List (Int × Int)) : Bool := anyB (sts t.vars).length fun i => f i && hoB l (row (sts t.vars) i)
theorem arr_iff (hr : Right t) (hs : stB t.vars s0 = true) {l : List (Int × Int)} : arB36 t (wlB t s0 a ops) l = true ↔ ∃ s, Wlk t s0 a ops s ∧ hoB l s = true := by
  unfold arB36
  rw [anyB_true]
  constructor
  · rintro ⟨i, hi, h⟩
    rw [Bool.and_eq_true] at h
    exact ⟨_, wlB_iff.1 h.1, h.2⟩
  · rintro ⟨s, hw, hl⟩
    have hst := wlk_st hr hs hw
    refine ⟨num t s, (num_eq hr hst).2, ?_⟩
    rw [Bool.and_eq_true, wlB_iff, sts_num hr hst]
    exact ⟨hw, hl⟩
end
end

theorem row_mark2 {w : World} {g n : Nat} {f : Nat → Bool} (h : w.rowIs g 4 n fun v => .bool (f v)) (j : Nat) : (w.setCell ⟨g, j, none⟩ (.bool true)).rowIs g 4 n fun v => .bool (setF f j v) :=
  (h.set j _).congr fun v _ => by unfold setF; by_cases e : v = j <;> simp [e]

set_option maxRecDepth 100000 in
set_option maxHeartbeats 16000000 in
theorem walk36_any (t : Tsk) (p : Lies) (s ops : List Int) (AS AO : Option Addr) (cs co2 : Nat) (a1 a2 : Int) (w : World) (ht : TaskAt w w.heap.size t p) (hs : IntsAt w w.heap.size AS s) (ho : IntsAt w w.heap.size AO ops) (hst : stB t.vars s = true) (hS : Smll t) (ha : a1 < 0 ∨ (0 ≤ a1 ∧ a1 < t.vars.length)) :
    Calls Try.prog 15 #[TaskV t p, .slice AS s.length cs, .agg #[.int .i64 a1, .int .i64 a2], .slice AO ops.length co2] w fun e w' => (∃ g : Nat, e = .returned (.slice (some ⟨g, 0, none⟩) (sts t.vars).length (sts t.vars).length) ∧ w'.rowIs g 4 (sts t.vars).length (fun i => .bool (wlB t s (a1, a2) ops i))) ∧ Below w.heap.size w w' := by
  have k1 := fun w1 (hb : Below w.heap.size w w1) => bstates_any t.vars p.av p.cv w1 (ht.vars.up hb) hS.right.dom (by have := hS.many; omega) hS.right.nv
  have k2 := fun w1 (hb : Below w.heap.size w w1) => bedges_any t p w1 (ht.up hb) hS
  have k3 := fun w1 (hb : Below w.heap.size w w1) => brank_any t.vars s p.av AS p.cv cs w1 (ht.vars.up hb) (hs.up hb) (by unfold stB at hst; simpa using hst) hS.right.dom (by have := hS.many; omega)
  have hn := num_eq hS.right hst
  have hrk : rk t.vars s s.length = (num t s : Int) := by rw [stB_len hst]; exact hn.1
  rw [hrk] at k3
  have hN3 : (sts t.vars).length ≤ 512 := by have := sts_len hS.right; have := hS.many; omega
  have HS := Lib.hid hS
  have lops := ho.len
  have Hst := Lib.hid hst
  have K1 := Lib.hid k1
  have K2 := Lib.hid k2
  have K3 := Lib.hid k3
  have hel : (edges t).length ≤ 20000 := by have := egK_len (t := t) (j := 0) hN3 (Nat.zero_le _) HS.out.no; unfold egK at this; rw [egO_zero, List.append_nil] at this; exact this
  have Heg := Lib.hid (fun (e : Nat × Nat × Nat) (he : e ∈ edges t) => egd_facts HS.out.right he)
  have Hwl := Lib.hid (wl_start (a := (a1, a2)) (ops := ops) hS.right hst)
  obtain ⟨nm, hnm⟩ : ∃ nm, nm = num t s := ⟨_, rfl⟩
  rw [← hnm] at K3 Hwl hn
  have hnl := hn.2
  clear k1 k2 k3 hn hrk hS hst hnm
  obtain ⟨av, ai, ag, ao, cv, ci, cg, co⟩ := p
  unfold TaskV at *
  dsimp only at *
  have hmk := run_make_row' (P := Try.prog) 41 4 (.bool false) 1 undB infoB rfl .i64 .i64 (sts t.vars).length (by omega) (by omega)
  obtain ⟨N, hNN⟩ : ∃ N, N = (sts t.vars).length := ⟨_, rfl⟩
  rw [← hNN] at hmk hN3 hnl
  have HN := Lib.hid hNN
  have n0 : (0 : Int) ≤ (nm : Int) := by omega
  have n1 : (nm : Int) < (N : Int) := by omega
  go_enter Try.func15, Try.ntmps15
  go_wp2_with fail
  refine (K1.out _ (by repeat (first | exact Below.refl _ _ | refine below_dN ?_ _ | refine Below.drew ?_ | refine Below.alloc ?_ (by first | omega | (simp; done) | (simp; omega)) _ | refine Below.setCell ?_ (by first | omega | (simp; done) | (simp; omega)) _ | refine below_step (by assumption) (by first | omega | (simp; done) | (simp; omega)) ?_))).mono ?_
  rintro e w2 ⟨⟨v2, rfl, A, c, rfl, hrows⟩, hb2⟩
  have hbx2 : Boxed w2 w.heap.size t ⟨av, ai, ag, ao, cv, ci, cg, co⟩ := Boxed.up (by constructor <;> first | (simp; done) | (simp; omega)) hb2
  have hf0 : w2.cell? ⟨w.heap.size + 1, 0, none⟩ = some (.int .i64 a1) := (hb2.cell (p := ⟨w.heap.size + 1, 0, none⟩) (by simp)).trans (by simp)
  have hf1 : w2.cell? ⟨w.heap.size + 1, 1, none⟩ = some (.int .i64 a2) := (hb2.cell (p := ⟨w.heap.size + 1, 1, none⟩) (by simp)).trans (by simp)
  have hbw2 : Below w.heap.size w w2 := (((Below.refl _ _).alloc (Nat.le_refl _) _).alloc (by simp) _).trans (hb2.mono (by simp; omega))
  have zz := hb2.size
  simp only [World.size_alloc] at zz
  have Hrows := Lib.hid hrows
  have z2 := hbw2.size
  rw [← hNN]
  clear hrows hb2 hNN
  obtain ⟨z0, y0, y1, y2, y3⟩ := id hbx2
  dsimp only at y0 y1 y2 y3
  have hrow2 := (World.rowIs_made w2 (.bool false) N 4).congr (g := fun v => .bool ((fun _ => false) v)) fun _ _ => rfl
  have hbx2a := hbx2.up ((Below.refl w2.heap.size w2).alloc (Nat.le_refl _) (.cells (madeCells #[.bool false] N) 4))
  go_wp2_with fail
  refine (K3.out _ (hbw2.alloc z2 _)).mono ?_
  rintro e w3 ⟨rfl, hb3⟩
  have hrow3 := row_up hrow2 hb3
  have hb23 : Below w2.heap.size w2 w3 := ((Below.refl _ _).alloc (Nat.le_refl _) _).trans (hb3.mono (by simp))
  have m2 := hrow3.cell hnl
  have m3 := hrow3.frozen nm
  have m4 := hrow3.lt
  have hrow4 := row_mark2 hrow3 nm
  have hbx3 := hbx2.up hb23
  have hb24 : Below w2.heap.size w2 (w3.setCell ⟨w2.heap.size, nm, none⟩ (.bool true)) := hb23.setCell (Nat.le_refl _) _
  have hbx4 := hbx2.up hb24
  have hbw4 := hbw2.trans (hb24.mono z2)
  have hs4 : (w3.setCell ⟨w2.heap.size, nm, none⟩ (.bool true)).heap.size = w3.heap.size := by simp [World.setCell]
  clear z0 y0 y1 y2 y3 hrow2 hbx2a hb3 hmk
  obtain ⟨z0, y0, y1, y2, y3⟩ := id hbx4
  dsimp only at y0 y1 y2 y3
  go_wp2_with fail
  refine (K2.out _ hbw4).mono ?_
  rintro e w5 ⟨⟨v4, rfl, ⟨Ae, ce, rfl, hE⟩, hfr⟩, hb5⟩
  have Hfr := Lib.hid hfr
  have hbw5 := hbw4.trans (hb5.mono hbw4.size)
  have hrow5 := row_up hrow4 hb5
  have hb25 := hb24.trans (hb5.mono (by rw [hs4]; exact hb23.size))
  have hgl : w2.heap.size < w5.heap.size := hrow5.lt
  have HE := Lib.hid hE
  have HWT := Lib.hid (show w2.heap.size + 1 ≤ w3.heap.size from m4)
  have Hfr2 := Lib.hid (show FreshV w3.heap.size (.slice Ae (edges t).length ce) by rw [← hs4]; exact hfr)
  have hbx5 := hbx2.up hb25
  have f0' := (hb25.cell (p := ⟨w.heap.size + 1, 0, none⟩) (by show w.heap.size + 1 < _; omega)).trans hf0
  have f1' := (hb25.cell (p := ⟨w.heap.size + 1, 1, none⟩) (by show w.heap.size + 1 < _; omega)).trans hf1
  clear z0 y0 y1 y2 y3 hb5 hE hfr Hfr hrow4 hrow3 hbx3 hbx4 hb24 hbw4 hs4 m2 m3
  obtain ⟨L, hL⟩ : ∃ L, L = edges t := ⟨_, rfl⟩
  rw [← hL] at HE Heg hel Hfr2
  rw [← hL]
  have HL := Lib.hid hL
  obtain ⟨f0, hf00⟩ : ∃ f0 : Nat → Bool, f0 = setF (fun _ => false) nm := ⟨_, rfl⟩
  rw [← hf00] at hrow5 Hwl
  clear hL hf00
  go_wp2
  go_loopg [12] (2 * cntF f0 N + 1) (fun gg c wr => ∃ (f : Nat → Bool) (ch : Bool), gg = 2 * cntF f N + (if ch then 1 else 0) ∧ c = .bool ch ∧ wr.rowIs w2.heap.size 4 N (fun v => .bool (f v)) ∧ Hid (WlI t s (a1, a2) ops f) ∧ Hid (ch = false → ∀ i, i < L.length → f (egd L i).1 = true → pmB t (a1, a2) ops (egd L i) = true → f (egd L i).2.2 = true) ∧ Kp w2.heap.size (w2.heap.size + 1) w5 wr)
  case atStart => exact ⟨f0, true, rfl, rfl, hrow5, Hwl, Lib.hid (fun h => by cases h), Kp.refl _ _ _⟩
  case round =>
    clear hrow5 Hwl
    obtain ⟨f, ch, hgk, rfl, hrow, hfi, hcl, hkp⟩ := hrel
    have Hgk := Lib.hid hgk
    clear hgk
    have kz := hkp.size
    cases ch
    · have Hb := Lib.hid (hrow.congr (g := fun v => .bool (wlB t s (a1, a2) ops v)) fun v hv => by
        rw [wl_end HS.out.right Hst.out hfi.out (fun e he => by
          rw [← HL.out] at he
          obtain ⟨i, hi, rfl⟩ := mem_egd he
          exact hcl.out rfl i hi) v (by rw [← HN.out]; exact hv)])
      have hbl := hbw5.trans (hkp.below (B := w.heap.size) (by omega) (by omega))
      clear hrow hkp
      go_wp2
      go_ret
      exact ⟨⟨w2.heap.size, by rw [HN.out]; rfl, by rw [← HN.out]; exact Hb.out⟩, hbl⟩
    · obtain ⟨w6, rfl⟩ : ∃ w6 : World, w6 = wr := ⟨_, rfl⟩
      go_wp2
      go_loopw [12, 35] (fun c i wr => ∃ (j : Nat) (f' : Nat → Bool) (ch : Bool), j ≤ L.length ∧ i = .int .i64 j ∧ c = .bool ch ∧ wr.rowIs w2.heap.size 4 N (fun v => .bool (f' v)) ∧ Hid (WlI t s (a1, a2) ops f') ∧ Hid (ch = false → ∀ i, i < j → f' (egd L i).1 = true → pmB t (a1, a2) ops (egd L i) = true → f' (egd L i).2.2 = true) ∧ Hid (cntF f' N ≤ cntF f N) ∧ Hid (ch = true → cntF f' N < cntF f N) ∧ Kp w2.heap.size (w2.heap.size + 1) w5 wr) (fun _ i _ => L.length - (intOf i).toNat)
      case atStart => exact ⟨0, f, false, by omega, rfl, rfl, hrow, hfi, Lib.hid (fun _ i hi => absurd hi (by omega)), Lib.hid (Nat.le_refl _), Lib.hid (fun h => by cases h), hkp⟩
      case round =>
        clear hrow hfi hkp kz hcl
        obtain ⟨j, f', ch, hj, rfl, rfl, hrow, hfi, hcl, hcn, hcs, hkp⟩ := hrel
        have kz := hkp.size
        by_cases hlt : j < L.length
        · obtain ⟨b1, eA, hb1, hc1⟩ := HE.out (by omega)
          subst eA
          have hee := Heg.out (egd L j) (egd_mem hlt)
          have HM := Lib.hid (egd_mem hlt)
          have hne1 : w2.heap.size + 1 ≤ b1 := Nat.le_trans HWT.out (Hfr2.out b1 rfl)
          have d1 := (hkp.cell (p := ⟨b1, j * 3, none⟩) hb1 (.inr hne1)).trans (hc1 j hlt).1
          have d2 := (hkp.cell (p := ⟨b1, j * 3 + 1, none⟩) hb1 (.inr hne1)).trans (hc1 j hlt).2.1
          have d3 := (hkp.cell (p := ⟨b1, j * 3 + 2, none⟩) hb1 (.inr hne1)).trans (hc1 j hlt).2.2
          obtain ⟨⟨ef, eo, et⟩, hjj⟩ : ∃ x, egd L j = x := ⟨_, rfl⟩
          rw [hjj] at d1 d2 d3 hee HM
          dsimp only at d1 d2 d3 hee
          obtain ⟨hfr, hop, hto, hpre, hrt⟩ := hee
          obtain ⟨bS, eS, hbS, hcS⟩ := Hrows.out (by omega)
          subst eS
          obtain ⟨S, cS, v1, v2, v3⟩ := hcS et hto
          have hk5 : ∀ q : Addr, q.block < w2.heap.size → wr.cell? q = w2.cell? q := fun q hq => (hkp.cell (by omega) (.inl hq)).trans (hb25.cell hq)
          have Hk5 := Lib.hid hk5
          clear hk5
          have dS := (Hk5.out ⟨bS, et, none⟩ hbS).trans v1
          have hRS : (row (sts t.vars) et).length = t.vars.length := stB_len (sts_st HS.out.right hto)
          have HrS := Lib.hid v3
          obtain ⟨rw_, hrw⟩ : ∃ r, r = row (sts t.vars) et := ⟨_, rfl⟩
          rw [← hrw] at dS HrS hRS
          have Hrw := Lib.hid hrw
          have HRS := Lib.hid hRS
          rw [← HN.out] at hfr hto
          have Hjj := Lib.hid hjj
          have r1 := hrow.cell hfr
          have r2 := hrow.cell hto
          have r3 := hrow.frozen et
          have hrl := hrow.lt
          have g1 : b1 < wr.heap.size := by omega
          have gS : bS < wr.heap.size := by omega
          have hbw : Below w.heap.size w wr := hbw5.trans (hkp.below (by omega) (by omega))
          have t0 := (Hk5.out ⟨w.heap.size + 1, 0, none⟩ (by show w.heap.size + 1 < _; omega)).trans hf0
          have t1 := (Hk5.out ⟨w.heap.size + 1, 1, none⟩ (by show w.heap.size + 1 < _; omega)).trans hf1
          have gw : w.heap.size + 1 < wr.heap.size := by omega
          have Hmark := Lib.hid (fun (h1 : f' ef = true) h2 => wl_mark HS.out.right Hst.out hfi.out (e := (ef, eo, et)) (by rw [← HL.out]; exact HM.out) h1 h2)
          have HR2 := Lib.hid hrow
          have HK := Lib.hid hkp
          have ef0 : (0 : Int) ≤ (ef : Int) := by omega
          have ef1 : (ef : Int) < (N : Int) := by omega
          have et0 : (0 : Int) ≤ (et : Int) := by omega
          have et1 : (et : Int) < (N : Int) := by omega
          have j0 : (0 : Int) ≤ (j : Int) := by omega
          have j3 : (j : Int) < (L.length : Int) := by omega
          clear hjj hpre hrt hc1 hcS v1 v3 hrw hRS hrow hkp
          cases e1 : f' ef
          case false =>
            rw [e1] at r1
            obtain ⟨wq, rfl⟩ : ∃ wq : World, wq = wr := ⟨_, rfl⟩
            go_wp2_with fail
            refine wp_region_aft (by kernel_rfl) (by kernel_rfl) (by (try simp); exact rfl) ?_; intro haft; (repeat (go_big_quiet_step (fail))); refine wpQuiet_nil ?_; intro w7 hwx; have hb7 := aft_below hwx; clear hwx; obtain ⟨hc7, hf7, hz7, hlt7, hle7⟩ := cellsIf hb7 (by (try simp); exact rfl); (try have : w.heap.size < w7.heap.size := (by omega)); (try have : w.heap.size < w7.heap.size + 1 := (by omega)); (try have : w.heap.size < w7.heap.size + 1 + 1 := (by omega)); (try have : w.heap.size + 1 < w7.heap.size := (by omega)); (try have : w.heap.size + 1 < w7.heap.size + 1 := (by omega)); (try have : w.heap.size + 1 < w7.heap.size + 1 + 1 := (by omega)); (try have : w.heap.size + 1 + 1 < w7.heap.size := (by omega)); (try have : w.heap.size + 1 + 1 < w7.heap.size + 1 := (by omega)); (try have : w.heap.size + 1 + 1 < w7.heap.size + 1 + 1 := (by omega)); (try have : w1.heap.size < w7.heap.size := (by omega)); (try have : w1.heap.size < w7.heap.size + 1 := (by omega)); (try have : w1.heap.size < w7.heap.size + 1 + 1 := (by omega)); (try have : w1.heap.size + 1 < w7.heap.size := (by omega)); (try have : w1.heap.size + 1 < w7.heap.size + 1 := (by omega)); (try have : w1.heap.size + 1 < w7.heap.size + 1 + 1 := (by omega)); (try have : w1.heap.size + 1 + 1 < w7.heap.size := (by omega)); (try have : w1.heap.size + 1 + 1 < w7.heap.size + 1 := (by omega)); (try have : w1.heap.size + 1 + 1 < w7.heap.size + 1 + 1 := (by omega)); (try have : w2.heap.size < w7.heap.size := (by omega)); (try have : w2.heap.size < w7.heap.size + 1 := (by omega)); (try have : w2.heap.size < w7.heap.size + 1 + 1 := (by omega)); (try have : w2.heap.size + 1 < w7.heap.size := (by omega)); (try have : w2.heap.size + 1 < w7.heap.size + 1 := (by omega)); (try have : w2.heap.size + 1 < w7.heap.size + 1 + 1 := (by omega)); (try have : w2.heap.size + 1 + 1 < w7.heap.size := (by omega)); (try have : w2.heap.size + 1 + 1 < w7.heap.size + 1 := (by omega)); (try have : w2.heap.size + 1 + 1 < w7.heap.size + 1 + 1 := (by omega)); (try have : w3.heap.size < w7.heap.size := (by omega)); (try have : w3.heap.size < w7.heap.size + 1 := (by omega)); (try have : w3.heap.size < w7.heap.size + 1 + 1 := (by omega)); (try have : w3.heap.size + 1 < w7.heap.size := (by omega)); (try have : w3.heap.size + 1 < w7.heap.size + 1 := (by omega)); (try have : w3.heap.size + 1 < w7.heap.size + 1 + 1 := (by omega)); (try have : w3.heap.size + 1 + 1 < w7.heap.size := (by omega)); (try have : w3.heap.size + 1 + 1 < w7.heap.size + 1 := (by omega)); (try have : w3.heap.size + 1 + 1 < w7.heap.size + 1 + 1 := (by omega)); (try have : w4.heap.size < w7.heap.size := (by omega)); (try have : w4.heap.size < w7.heap.size + 1 := (by omega)); (try have : w4.heap.size < w7.heap.size + 1 + 1 := (by omega)); (try have : w4.heap.size + 1 < w7.heap.size := (by omega)); (try have : w4.heap.size + 1 < w7.heap.size + 1 := (by omega)); (try have : w4.heap.size + 1 < w7.heap.size + 1 + 1 := (by omega)); (try have : w4.heap.size + 1 + 1 < w7.heap.size := (by omega)); (try have : w4.heap.size + 1 + 1 < w7.heap.size + 1 := (by omega)); (try have : w4.heap.size + 1 + 1 < w7.heap.size + 1 + 1 := (by omega)); (try have : w5.heap.size < w7.heap.size := (by omega)); (try have : w5.heap.size < w7.heap.size + 1 := (by omega)); (try have : w5.heap.size < w7.heap.size + 1 + 1 := (by omega)); (try have : w5.heap.size + 1 < w7.heap.size := (by omega)); (try have : w5.heap.size + 1 < w7.heap.size + 1 := (by omega)); (try have : w5.heap.size + 1 < w7.heap.size + 1 + 1 := (by omega)); (try have : w5.heap.size + 1 + 1 < w7.heap.size := (by omega)); (try have : w5.heap.size + 1 + 1 < w7.heap.size + 1 := (by omega)); (try have : w5.heap.size + 1 + 1 < w7.heap.size + 1 + 1 := (by omega)); (try have : w6.heap.size < w7.heap.size := (by omega)); (try have : w6.heap.size < w7.heap.size + 1 := (by omega)); (try have : w6.heap.size < w7.heap.size + 1 + 1 := (by omega)); (try have : w6.heap.size + 1 < w7.heap.size := (by omega)); (try have : w6.heap.size + 1 < w7.heap.size + 1 := (by omega)); (try have : w6.heap.size + 1 < w7.heap.size + 1 + 1 := (by omega)); (try have : w6.heap.size + 1 + 1 < w7.heap.size := (by omega)); (try have : w6.heap.size + 1 + 1 < w7.heap.size + 1 := (by omega)); (try have : w6.heap.size + 1 + 1 < w7.heap.size + 1 + 1 := (by omega)); clear haft
            have zo : w7.cell? ⟨wq.heap.size, 1, none⟩ = some (.int .i64 (eo : Int)) := (hb7.cell (p := ⟨wq.heap.size, 1, none⟩) (by simp)).trans (by simp)
            have z7 := hb7.size
            simp only [World.size_alloc] at z7
            have hbw7 := hbw.trans ((((Below.refl wq.heap.size wq).alloc (Nat.le_refl _) (.cells #[.int .i64 (ef : Int), .int .i64 (eo : Int), .int .i64 (et : Int)] 93)).trans (hb7.mono (by simp))).mono hbw.size)
            go_wp2
            go_loopw [15, 73] (fun v i wx => ∃ (q : Nat), q ≤ ops.length ∧ i = .int .i64 q ∧ v = .bool false ∧ Below w7.heap.size w7 wx) (fun _ i _ => ops.length - (intOf i).toNat)
            case atStart => exact ⟨0, by omega, rfl, rfl, Below.refl _ _⟩
            case round =>
              obtain ⟨q, hq, rfl, rfl, hbx⟩ := hrel
              have hbxz := hbx.size
              by_cases hlq : q < ops.length
              · obtain ⟨bo, oo, eO, hbo, hco⟩ := ho.at_ hlq
                subst eO
                have dq := ((hbw7.trans (hbx.mono hbw7.size)).cell (p := ⟨bo, oo + q, none⟩) hbo).trans (hco q hlq)
                have gq : bo < wr.heap.size := by have := hbw7.size; omega
                have q0 : (0 : Int) ≤ (q : Int) := by omega
                have q1 : (q : Int) < (ops.length : Int) := by omega
                clear hco
                go_wp2
                go_roundw
                case rel => exact ⟨q + 1, by omega, by go_num, rfl, by first | exact hbx | exact hbx.drew | exact below_dN hbx _⟩
                case measure => simp [intOf]; omega
              · have Hs := Lib.hid (show ch = false → ∀ i, i < j + 1 → f' (egd L i).1 = true → pmB t (a1, a2) ops (egd L i) = true → f' (egd L i).2.2 = true from fun hc i hi h1 h2 => by
                  rcases Nat.lt_succ_iff_lt_or_eq.1 hi with h | rfl
                  · exact hcl.out hc i h h1 h2
                  · rw [Hjj.out] at h1; rw [e1] at h1; cases h1)
                go_wp2
                go_roundw
                case rel => exact ⟨j + 1, f', ch, by omega, by go_num, rfl, (row_up (row_up (HR2.out.alloc _) hb7) hbx), hfi, Hs, hcn, hcs, ((HK.out.alloc _).up hb7).up hbx⟩
                case measure => simp [intOf]; omega
          replace Hmark := Lib.hid (Hmark.out e1)
          rw [e1] at r1
          cases e2 : f' et
          case true =>
            rw [e2] at r2
            obtain ⟨wq, rfl⟩ : ∃ wq : World, wq = wr := ⟨_, rfl⟩
            go_wp2_with fail
            refine wp_region_aft (by kernel_rfl) (by kernel_rfl) (by (try simp); exact rfl) ?_; intro haft; (repeat (go_big_quiet_step (fail))); refine wpQuiet_nil ?_; intro w7 hwx; have hb7 := aft_below hwx; clear hwx; obtain ⟨hc7, hf7, hz7, hlt7, hle7⟩ := cellsIf hb7 (by (try simp); exact rfl); (try have : w.heap.size < w7.heap.size := (by omega)); (try have : w.heap.size < w7.heap.size + 1 := (by omega)); (try have : w.heap.size < w7.heap.size + 1 + 1 := (by omega)); (try have : w.heap.size + 1 < w7.heap.size := (by omega)); (try have : w.heap.size + 1 < w7.heap.size + 1 := (by omega)); (try have : w.heap.size + 1 < w7.heap.size + 1 + 1 := (by omega)); (try have : w.heap.size + 1 + 1 < w7.heap.size := (by omega)); (try have : w.heap.size + 1 + 1 < w7.heap.size + 1 := (by omega)); (try have : w.heap.size + 1 + 1 < w7.heap.size + 1 + 1 := (by omega)); (try have : w1.heap.size < w7.heap.size := (by omega)); (try have : w1.heap.size < w7.heap.size + 1 := (by omega)); (try have : w1.heap.size < w7.heap.size + 1 + 1 := (by omega)); (try have : w1.heap.size + 1 < w7.heap.size := (by omega)); (try have : w1.heap.size + 1 < w7.heap.size + 1 := (by omega)); (try have : w1.heap.size + 1 < w7.heap.size + 1 + 1 := (by omega)); (try have : w1.heap.size + 1 + 1 < w7.heap.size := (by omega)); (try have : w1.heap.size + 1 + 1 < w7.heap.size + 1 := (by omega)); (try have : w1.heap.size + 1 + 1 < w7.heap.size + 1 + 1 := (by omega)); (try have : w2.heap.size < w7.heap.size := (by omega)); (try have : w2.heap.size < w7.heap.size + 1 := (by omega)); (try have : w2.heap.size < w7.heap.size + 1 + 1 := (by omega)); (try have : w2.heap.size + 1 < w7.heap.size := (by omega)); (try have : w2.heap.size + 1 < w7.heap.size + 1 := (by omega)); (try have : w2.heap.size + 1 < w7.heap.size + 1 + 1 := (by omega)); (try have : w2.heap.size + 1 + 1 < w7.heap.size := (by omega)); (try have : w2.heap.size + 1 + 1 < w7.heap.size + 1 := (by omega)); (try have : w2.heap.size + 1 + 1 < w7.heap.size + 1 + 1 := (by omega)); (try have : w3.heap.size < w7.heap.size := (by omega)); (try have : w3.heap.size < w7.heap.size + 1 := (by omega)); (try have : w3.heap.size < w7.heap.size + 1 + 1 := (by omega)); (try have : w3.heap.size + 1 < w7.heap.size := (by omega)); (try have : w3.heap.size + 1 < w7.heap.size + 1 := (by omega)); (try have : w3.heap.size + 1 < w7.heap.size + 1 + 1 := (by omega)); (try have : w3.heap.size + 1 + 1 < w7.heap.size := (by omega)); (try have : w3.heap.size + 1 + 1 < w7.heap.size + 1 := (by omega)); (try have : w3.heap.size + 1 + 1 < w7.heap.size + 1 + 1 := (by omega)); (try have : w4.heap.size < w7.heap.size := (by omega)); (try have : w4.heap.size < w7.heap.size + 1 := (by omega)); (try have : w4.heap.size < w7.heap.size + 1 + 1 := (by omega)); (try have : w4.heap.size + 1 < w7.heap.size := (by omega)); (try have : w4.heap.size + 1 < w7.heap.size + 1 := (by omega)); (try have : w4.heap.size + 1 < w7.heap.size + 1 + 1 := (by omega)); (try have : w4.heap.size + 1 + 1 < w7.heap.size := (by omega)); (try have : w4.heap.size + 1 + 1 < w7.heap.size + 1 := (by omega)); (try have : w4.heap.size + 1 + 1 < w7.heap.size + 1 + 1 := (by omega)); (try have : w5.heap.size < w7.heap.size := (by omega)); (try have : w5.heap.size < w7.heap.size + 1 := (by omega)); (try have : w5.heap.size < w7.heap.size + 1 + 1 := (by omega)); (try have : w5.heap.size + 1 < w7.heap.size := (by omega)); (try have : w5.heap.size + 1 < w7.heap.size + 1 := (by omega)); (try have : w5.heap.size + 1 < w7.heap.size + 1 + 1 := (by omega)); (try have : w5.heap.size + 1 + 1 < w7.heap.size := (by omega)); (try have : w5.heap.size + 1 + 1 < w7.heap.size + 1 := (by omega)); (try have : w5.heap.size + 1 + 1 < w7.heap.size + 1 + 1 := (by omega)); (try have : w6.heap.size < w7.heap.size := (by omega)); (try have : w6.heap.size < w7.heap.size + 1 := (by omega)); (try have : w6.heap.size < w7.heap.size + 1 + 1 := (by omega)); (try have : w6.heap.size + 1 < w7.heap.size := (by omega)); (try have : w6.heap.size + 1 < w7.heap.size + 1 := (by omega)); (try have : w6.heap.size + 1 < w7.heap.size + 1 + 1 := (by omega)); (try have : w6.heap.size + 1 + 1 < w7.heap.size := (by omega)); (try have : w6.heap.size + 1 + 1 < w7.heap.size + 1 := (by omega)); (try have : w6.heap.size + 1 + 1 < w7.heap.size + 1 + 1 := (by omega)); clear haft
            have zo : w7.cell? ⟨wq.heap.size, 1, none⟩ = some (.int .i64 (eo : Int)) := (hb7.cell (p := ⟨wq.heap.size, 1, none⟩) (by simp)).trans (by simp)
            have z7 := hb7.size
            simp only [World.size_alloc] at z7
            have hbw7 := hbw.trans ((((Below.refl wq.heap.size wq).alloc (Nat.le_refl _) (.cells #[.int .i64 (ef : Int), .int .i64 (eo : Int), .int .i64 (et : Int)] 93)).trans (hb7.mono (by simp))).mono hbw.size)
            go_wp2
            go_loopw [15, 73] (fun v i wx => ∃ (q : Nat), q ≤ ops.length ∧ i = .int .i64 q ∧ v = .bool false ∧ Below w7.heap.size w7 wx) (fun _ i _ => ops.length - (intOf i).toNat)
            case atStart => exact ⟨0, by omega, rfl, rfl, Below.refl _ _⟩
            case round =>
              obtain ⟨q, hq, rfl, rfl, hbx⟩ := hrel
              have hbxz := hbx.size
              by_cases hlq : q < ops.length
              · obtain ⟨bo, oo, eO, hbo, hco⟩ := ho.at_ hlq
                subst eO
                have dq := ((hbw7.trans (hbx.mono hbw7.size)).cell (p := ⟨bo, oo + q, none⟩) hbo).trans (hco q hlq)
                have gq : bo < wr.heap.size := by have := hbw7.size; omega
                have q0 : (0 : Int) ≤ (q : Int) := by omega
                have q1 : (q : Int) < (ops.length : Int) := by omega
                clear hco
                go_wp2
                go_roundw
                case rel => exact ⟨q + 1, by omega, by go_num, rfl, by first | exact hbx | exact hbx.drew | exact below_dN hbx _⟩
                case measure => simp [intOf]; omega
              · have Hs := Lib.hid (show ch = false → ∀ i, i < j + 1 → f' (egd L i).1 = true → pmB t (a1, a2) ops (egd L i) = true → f' (egd L i).2.2 = true from fun hc i hi h1 h2 => by
                  rcases Nat.lt_succ_iff_lt_or_eq.1 hi with h | rfl
                  · exact hcl.out hc i h h1 h2
                  · rw [Hjj.out]; exact e2)
                go_wp2
                go_roundw
                case rel => exact ⟨j + 1, f', ch, by omega, by go_num, rfl, (row_up (row_up (HR2.out.alloc _) hb7) hbx), hfi, Hs, hcn, hcs, ((HK.out.alloc _).up hb7).up hbx⟩
                case measure => simp [intOf]; omega
          rw [e2] at r2
          by_cases e3 : a1 < 0
          · have e4 : decide (a1 < 0) = true := by simpa using e3
            have Hfa := Lib.hid (show faF (a1, a2) (row (sts t.vars) (ef, eo, et).2.2) = true by unfold faF; rw [e4]; rfl)
            obtain ⟨wq, rfl⟩ : ∃ wq : World, wq = wr := ⟨_, rfl⟩
            go_wp2_with fail
            refine wp_region_aft (by kernel_rfl) (by kernel_rfl) (by (try simp); exact rfl) ?_; intro haft; (repeat (go_big_quiet_step (fail))); refine wpQuiet_nil ?_; intro w7 hwx; have hb7 := aft_below hwx; clear hwx; obtain ⟨hc7, hf7, hz7, hlt7, hle7⟩ := cellsIf hb7 (by (try simp); exact rfl); (try have : w.heap.size < w7.heap.size := (by omega)); (try have : w.heap.size < w7.heap.size + 1 := (by omega)); (try have : w.heap.size < w7.heap.size + 1 + 1 := (by omega)); (try have : w.heap.size + 1 < w7.heap.size := (by omega)); (try have : w.heap.size + 1 < w7.heap.size + 1 := (by omega)); (try have : w.heap.size + 1 < w7.heap.size + 1 + 1 := (by omega)); (try have : w.heap.size + 1 + 1 < w7.heap.size := (by omega)); (try have : w.heap.size + 1 + 1 < w7.heap.size + 1 := (by omega)); (try have : w.heap.size + 1 + 1 < w7.heap.size + 1 + 1 := (by omega)); (try have : w1.heap.size < w7.heap.size := (by omega)); (try have : w1.heap.size < w7.heap.size + 1 := (by omega)); (try have : w1.heap.size < w7.heap.size + 1 + 1 := (by omega)); (try have : w1.heap.size + 1 < w7.heap.size := (by omega)); (try have : w1.heap.size + 1 < w7.heap.size + 1 := (by omega)); (try have : w1.heap.size + 1 < w7.heap.size + 1 + 1 := (by omega)); (try have : w1.heap.size + 1 + 1 < w7.heap.size := (by omega)); (try have : w1.heap.size + 1 + 1 < w7.heap.size + 1 := (by omega)); (try have : w1.heap.size + 1 + 1 < w7.heap.size + 1 + 1 := (by omega)); (try have : w2.heap.size < w7.heap.size := (by omega)); (try have : w2.heap.size < w7.heap.size + 1 := (by omega)); (try have : w2.heap.size < w7.heap.size + 1 + 1 := (by omega)); (try have : w2.heap.size + 1 < w7.heap.size := (by omega)); (try have : w2.heap.size + 1 < w7.heap.size + 1 := (by omega)); (try have : w2.heap.size + 1 < w7.heap.size + 1 + 1 := (by omega)); (try have : w2.heap.size + 1 + 1 < w7.heap.size := (by omega)); (try have : w2.heap.size + 1 + 1 < w7.heap.size + 1 := (by omega)); (try have : w2.heap.size + 1 + 1 < w7.heap.size + 1 + 1 := (by omega)); (try have : w3.heap.size < w7.heap.size := (by omega)); (try have : w3.heap.size < w7.heap.size + 1 := (by omega)); (try have : w3.heap.size < w7.heap.size + 1 + 1 := (by omega)); (try have : w3.heap.size + 1 < w7.heap.size := (by omega)); (try have : w3.heap.size + 1 < w7.heap.size + 1 := (by omega)); (try have : w3.heap.size + 1 < w7.heap.size + 1 + 1 := (by omega)); (try have : w3.heap.size + 1 + 1 < w7.heap.size := (by omega)); (try have : w3.heap.size + 1 + 1 < w7.heap.size + 1 := (by omega)); (try have : w3.heap.size + 1 + 1 < w7.heap.size + 1 + 1 := (by omega)); (try have : w4.heap.size < w7.heap.size := (by omega)); (try have : w4.heap.size < w7.heap.size + 1 := (by omega)); (try have : w4.heap.size < w7.heap.size + 1 + 1 := (by omega)); (try have : w4.heap.size + 1 < w7.heap.size := (by omega)); (try have : w4.heap.size + 1 < w7.heap.size + 1 := (by omega)); (try have : w4.heap.size + 1 < w7.heap.size + 1 + 1 := (by omega)); (try have : w4.heap.size + 1 + 1 < w7.heap.size := (by omega)); (try have : w4.heap.size + 1 + 1 < w7.heap.size + 1 := (by omega)); (try have : w4.heap.size + 1 + 1 < w7.heap.size + 1 + 1 := (by omega)); (try have : w5.heap.size < w7.heap.size := (by omega)); (try have : w5.heap.size < w7.heap.size + 1 := (by omega)); (try have : w5.heap.size < w7.heap.size + 1 + 1 := (by omega)); (try have : w5.heap.size + 1 < w7.heap.size := (by omega)); (try have : w5.heap.size + 1 < w7.heap.size + 1 := (by omega)); (try have : w5.heap.size + 1 < w7.heap.size + 1 + 1 := (by omega)); (try have : w5.heap.size + 1 + 1 < w7.heap.size := (by omega)); (try have : w5.heap.size + 1 + 1 < w7.heap.size + 1 := (by omega)); (try have : w5.heap.size + 1 + 1 < w7.heap.size + 1 + 1 := (by omega)); (try have : w6.heap.size < w7.heap.size := (by omega)); (try have : w6.heap.size < w7.heap.size + 1 := (by omega)); (try have : w6.heap.size < w7.heap.size + 1 + 1 := (by omega)); (try have : w6.heap.size + 1 < w7.heap.size := (by omega)); (try have : w6.heap.size + 1 < w7.heap.size + 1 := (by omega)); (try have : w6.heap.size + 1 < w7.heap.size + 1 + 1 := (by omega)); (try have : w6.heap.size + 1 + 1 < w7.heap.size := (by omega)); (try have : w6.heap.size + 1 + 1 < w7.heap.size + 1 := (by omega)); (try have : w6.heap.size + 1 + 1 < w7.heap.size + 1 + 1 := (by omega)); clear haft
            have zo : w7.cell? ⟨wq.heap.size, 1, none⟩ = some (.int .i64 (eo : Int)) := (hb7.cell (p := ⟨wq.heap.size, 1, none⟩) (by simp)).trans (by simp)
            have zt : w7.cell? ⟨wq.heap.size, 2, none⟩ = some (.int .i64 (et : Int)) := (hb7.cell (p := ⟨wq.heap.size, 2, none⟩) (by simp)).trans (by simp)
            have z7 := hb7.size
            simp only [World.size_alloc] at z7
            have hbw7 := hbw.trans ((((Below.refl wq.heap.size wq).alloc (Nat.le_refl _) (.cells #[.int .i64 (ef : Int), .int .i64 (eo : Int), .int .i64 (et : Int)] 93)).trans (hb7.mono (by simp))).mono hbw.size)
            go_wp2
            go_loopw [15, 73] (fun v i wx => ∃ (q : Nat), q ≤ ops.length ∧ i = .int .i64 q ∧ v = .bool (!anyB q fun i => nth ops i == (eo : Int)) ∧ Below w7.heap.size w7 wx) (fun _ i _ => ops.length - (intOf i).toNat)
            case atStart => exact ⟨0, by omega, rfl, rfl, Below.refl _ _⟩
            case round =>
              obtain ⟨q, hq, rfl, rfl, hbx⟩ := hrel
              have hbxz := hbx.size
              by_cases hlq : q < ops.length
              · obtain ⟨bo, oo, eO, hbo, hco⟩ := ho.at_ hlq
                subst eO
                have dq := ((hbw7.trans (hbx.mono hbw7.size)).cell (p := ⟨bo, oo + q, none⟩) hbo).trans (hco q hlq)
                have gq : bo < wr.heap.size := by have := hbw7.size; omega
                have q0 : (0 : Int) ≤ (q : Int) := by omega
                have q1 : (q : Int) < (ops.length : Int) := by omega
                have zo' := (hbx.cell (p := ⟨wq.heap.size, 1, none⟩) (by show wq.heap.size < _; omega)).trans zo
                have gx : wq.heap.size < wr.heap.size := by omega
                have Hsu := Lib.hid (anyB_succ q fun i => nth ops i == (eo : Int))
                clear hco
                obtain ⟨y, hy⟩ : ∃ y, nth ops q = y := ⟨_, rfl⟩
                rw [hy] at dq Hsu
                clear hy
                cases e9 : anyB q fun i => nth ops i == (eo : Int)
                · rw [e9] at Hsu
                  by_cases e8 : y = (eo : Int)
                  · have Hr := Lib.hid (show (anyB (q + 1) fun i => nth ops i == (eo : Int)) = true by rw [Hsu.out, e8]; simp)
                    subst e8
                    go_wp2
                    go_roundw
                    case rel => exact ⟨q + 1, by omega, by go_num, by rw [Hr.out]; rfl, by first | exact hbx | exact hbx.drew | exact below_dN hbx _⟩
                    case measure => simp [intOf]; omega
                  · have Hr := Lib.hid (show (anyB (q + 1) fun i => nth ops i == (eo : Int)) = false by rw [Hsu.out]; simpa using e8)
                    have e7 : decide (y = (eo : Int)) = false := by simpa using e8
                    have hneq : ∀ w, (binOp .neq 3 (.int .i64 y) (.int .i64 (eo : Int))).run Try.prog w = .ok (.bool true) w := by intro w; simp [go_sem, e8]
                    go_wp2
                    go_roundw
                    case rel => exact ⟨q + 1, by omega, by go_num, by rw [Hr.out]; simp [e8], by first | exact hbx | exact hbx.drew | exact below_dN hbx _⟩
                    case measure => simp [intOf]; omega
                · rw [e9] at Hsu
                  have Hr := Lib.hid (show (anyB (q + 1) fun i => nth ops i == (eo : Int)) = true by rw [Hsu.out]; rfl)
                  go_wp2
                  go_roundw
                  case rel => exact ⟨q + 1, by omega, by go_num, by rw [Hr.out]; rfl, by first | exact hbx | exact hbx.drew | exact below_dN hbx _⟩
                  case measure => simp [intOf]; omega
              · obtain rfl : q = ops.length := by omega
                cases e9 : anyB ops.length fun i => nth ops i == (eo : Int)
                case true =>
                  have Hs := Lib.hid (show ch = false → ∀ i, i < j + 1 → f' (egd L i).1 = true → pmB t (a1, a2) ops (egd L i) = true → f' (egd L i).2.2 = true from fun hc i hi h1 h2 => by
                    rcases Nat.lt_succ_iff_lt_or_eq.1 hi with h | rfl
                    · exact hcl.out hc i h h1 h2
                    · exfalso; rw [Hjj.out] at h2; unfold pmB opF at h2; rw [e9] at h2; simp at h2)
                  go_wp2
                  go_roundw
                  case rel => exact ⟨j + 1, f', ch, by omega, by go_num, rfl, (row_up (row_up (HR2.out.alloc _) hb7) hbx), hfi, Hs, hcn, hcs, ((HK.out.alloc _).up hb7).up hbx⟩
                  case measure => simp [intOf]; omega
                have Hmk := Lib.hid (Hmark.out (by unfold pmB opF; rw [e9, Hfa.out]; rfl))
                have Hcc := Lib.hid (show cntF (setF f' et) N < cntF f N by have := cntF_set e2 hto; have := hcn.out; omega)
                have hR9 := row_up (row_up (HR2.out.alloc (.cells #[.int .i64 (ef : Int), .int .i64 (eo : Int), .int .i64 (et : Int)] 93)) hb7) hbx
                have s2 := hR9.cell hto
                have s3 := hR9.frozen et
                have s4 := hR9.lt
                have zt' := (hbx.cell (p := ⟨wq.heap.size, 2, none⟩) (by show wq.heap.size < _; omega)).trans zt
                have gx : wq.heap.size < wr.heap.size := by omega
                have HR9 := Lib.hid (row_mark2 hR9 et)
                clear hR9
                go_wp2
                go_roundw
                case rel => exact ⟨j + 1, setF f' et, true, by omega, by go_num, rfl, HR9.out, Hmk, Lib.hid (fun h => by cases h), Lib.hid (by have := Hcc.out; omega), Lib.hid (fun _ => Hcc.out), (((HK.out.alloc _).up hb7).up hbx).set (p := ⟨w2.heap.size, et, none⟩) (Nat.le_refl _) (Nat.lt_succ_self _) _⟩
                case measure => simp [intOf]; omega
          · have e4 : decide (a1 < 0) = false := by simpa using e3
            obtain ⟨x, hx⟩ : ∃ x : Nat, a1 = (x : Int) := ⟨a1.toNat, by omega⟩
            subst hx
            have hxn : x < rw_.length := by have := HRS.out; omega
            obtain ⟨b2, o2, eb, hb2, hc2⟩ := HrS.out.at_ hxn
            subst eb
            have dx := (Hk5.out ⟨b2, o2 + x, none⟩ hb2).trans (hc2 x hxn)
            have g2 : b2 < wr.heap.size := by omega
            have x0 : (0 : Int) ≤ (x : Int) := by omega
            have x1 : (x : Int) < (rw_.length : Int) := by omega
            have hxt : ((x : Int)).toNat = x := by simp
            have Hff := Lib.hid (show faF ((x : Int), a2) (row (sts t.vars) (ef, eo, et).2.2) = !decide (nth rw_ x = a2) by unfold faF; dsimp only; rw [e4, hxt, ← Hrw.out]; rfl)
            clear hc2 hxt
            obtain ⟨y, hy⟩ : ∃ y, nth rw_ x = y := ⟨_, rfl⟩
            rw [hy] at dx Hff
            clear hy
            by_cases e5 : y = a2
            · subst e5
              obtain ⟨wq, rfl⟩ : ∃ wq : World, wq = wr := ⟨_, rfl⟩
              go_wp2_with fail
              refine wp_region_aft (by kernel_rfl) (by kernel_rfl) (by (try simp); exact rfl) ?_; intro haft; (repeat (go_big_quiet_step (fail))); refine wpQuiet_nil ?_; intro w7 hwx; have hb7 := aft_below hwx; clear hwx; obtain ⟨hc7, hf7, hz7, hlt7, hle7⟩ := cellsIf hb7 (by (try simp); exact rfl); (try have : w.heap.size < w7.heap.size := (by omega)); (try have : w.heap.size < w7.heap.size + 1 := (by omega)); (try have : w.heap.size < w7.heap.size + 1 + 1 := (by omega)); (try have : w.heap.size + 1 < w7.heap.size := (by omega)); (try have : w.heap.size + 1 < w7.heap.size + 1 := (by omega)); (try have : w.heap.size + 1 < w7.heap.size + 1 + 1 := (by omega)); (try have : w.heap.size + 1 + 1 < w7.heap.size := (by omega)); (try have : w.heap.size + 1 + 1 < w7.heap.size + 1 := (by omega)); (try have : w.heap.size + 1 + 1 < w7.heap.size + 1 + 1 := (by omega)); (try have : w1.heap.size < w7.heap.size := (by omega)); (try have : w1.heap.size < w7.heap.size + 1 := (by omega)); (try have : w1.heap.size < w7.heap.size + 1 + 1 := (by omega)); (try have : w1.heap.size + 1 < w7.heap.size := (by omega)); (try have : w1.heap.size + 1 < w7.heap.size + 1 := (by omega)); (try have : w1.heap.size + 1 < w7.heap.size + 1 + 1 := (by omega)); (try have : w1.heap.size + 1 + 1 < w7.heap.size := (by omega)); (try have : w1.heap.size + 1 + 1 < w7.heap.size + 1 := (by omega)); (try have : w1.heap.size + 1 + 1 < w7.heap.size + 1 + 1 := (by omega)); (try have : w2.heap.size < w7.heap.size := (by omega)); (try have : w2.heap.size < w7.heap.size + 1 := (by omega)); (try have : w2.heap.size < w7.heap.size + 1 + 1 := (by omega)); (try have : w2.heap.size + 1 < w7.heap.size := (by omega)); (try have : w2.heap.size + 1 < w7.heap.size + 1 := (by omega)); (try have : w2.heap.size + 1 < w7.heap.size + 1 + 1 := (by omega)); (try have : w2.heap.size + 1 + 1 < w7.heap.size := (by omega)); (try have : w2.heap.size + 1 + 1 < w7.heap.size + 1 := (by omega)); (try have : w2.heap.size + 1 + 1 < w7.heap.size + 1 + 1 := (by omega)); (try have : w3.heap.size < w7.heap.size := (by omega)); (try have : w3.heap.size < w7.heap.size + 1 := (by omega)); (try have : w3.heap.size < w7.heap.size + 1 + 1 := (by omega)); (try have : w3.heap.size + 1 < w7.heap.size := (by omega)); (try have : w3.heap.size + 1 < w7.heap.size + 1 := (by omega)); (try have : w3.heap.size + 1 < w7.heap.size + 1 + 1 := (by omega)); (try have : w3.heap.size + 1 + 1 < w7.heap.size := (by omega)); (try have : w3.heap.size + 1 + 1 < w7.heap.size + 1 := (by omega)); (try have : w3.heap.size + 1 + 1 < w7.heap.size + 1 + 1 := (by omega)); (try have : w4.heap.size < w7.heap.size := (by omega)); (try have : w4.heap.size < w7.heap.size + 1 := (by omega)); (try have : w4.heap.size < w7.heap.size + 1 + 1 := (by omega)); (try have : w4.heap.size + 1 < w7.heap.size := (by omega)); (try have : w4.heap.size + 1 < w7.heap.size + 1 := (by omega)); (try have : w4.heap.size + 1 < w7.heap.size + 1 + 1 := (by omega)); (try have : w4.heap.size + 1 + 1 < w7.heap.size := (by omega)); (try have : w4.heap.size + 1 + 1 < w7.heap.size + 1 := (by omega)); (try have : w4.heap.size + 1 + 1 < w7.heap.size + 1 + 1 := (by omega)); (try have : w5.heap.size < w7.heap.size := (by omega)); (try have : w5.heap.size < w7.heap.size + 1 := (by omega)); (try have : w5.heap.size < w7.heap.size + 1 + 1 := (by omega)); (try have : w5.heap.size + 1 < w7.heap.size := (by omega)); (try have : w5.heap.size + 1 < w7.heap.size + 1 := (by omega)); (try have : w5.heap.size + 1 < w7.heap.size + 1 + 1 := (by omega)); (try have : w5.heap.size + 1 + 1 < w7.heap.size := (by omega)); (try have : w5.heap.size + 1 + 1 < w7.heap.size + 1 := (by omega)); (try have : w5.heap.size + 1 + 1 < w7.heap.size + 1 + 1 := (by omega)); (try have : w6.heap.size < w7.heap.size := (by omega)); (try have : w6.heap.size < w7.heap.size + 1 := (by omega)); (try have : w6.heap.size < w7.heap.size + 1 + 1 := (by omega)); (try have : w6.heap.size + 1 < w7.heap.size := (by omega)); (try have : w6.heap.size + 1 < w7.heap.size + 1 := (by omega)); (try have : w6.heap.size + 1 < w7.heap.size + 1 + 1 := (by omega)); (try have : w6.heap.size + 1 + 1 < w7.heap.size := (by omega)); (try have : w6.heap.size + 1 + 1 < w7.heap.size + 1 := (by omega)); (try have : w6.heap.size + 1 + 1 < w7.heap.size + 1 + 1 := (by omega)); clear haft
              have zo : w7.cell? ⟨wq.heap.size, 1, none⟩ = some (.int .i64 (eo : Int)) := (hb7.cell (p := ⟨wq.heap.size, 1, none⟩) (by simp)).trans (by simp)
              have z7 := hb7.size
              simp only [World.size_alloc] at z7
              have hbw7 := hbw.trans ((((Below.refl wq.heap.size wq).alloc (Nat.le_refl _) (.cells #[.int .i64 (ef : Int), .int .i64 (eo : Int), .int .i64 (et : Int)] 93)).trans (hb7.mono (by simp))).mono hbw.size)
              go_wp2
              go_loopw [15, 73] (fun v i wx => ∃ (q : Nat), q ≤ ops.length ∧ i = .int .i64 q ∧ v = .bool false ∧ Below w7.heap.size w7 wx) (fun _ i _ => ops.length - (intOf i).toNat)
              case atStart => exact ⟨0, by omega, rfl, rfl, Below.refl _ _⟩
              case round =>
                obtain ⟨q, hq, rfl, rfl, hbx⟩ := hrel
                have hbxz := hbx.size
                by_cases hlq : q < ops.length
                · obtain ⟨bo, oo, eO, hbo, hco⟩ := ho.at_ hlq
                  subst eO
                  have dq := ((hbw7.trans (hbx.mono hbw7.size)).cell (p := ⟨bo, oo + q, none⟩) hbo).trans (hco q hlq)
                  have gq : bo < wr.heap.size := by have := hbw7.size; omega
                  have q0 : (0 : Int) ≤ (q : Int) := by omega
                  have q1 : (q : Int) < (ops.length : Int) := by omega
                  clear hco
                  go_wp2
                  go_roundw
                  case rel => exact ⟨q + 1, by omega, by go_num, rfl, by first | exact hbx | exact hbx.drew | exact below_dN hbx _⟩
                  case measure => simp [intOf]; omega
                · have Hs := Lib.hid (show ch = false → ∀ i, i < j + 1 → f' (egd L i).1 = true → pmB t ((x : Int), y) ops (egd L i) = true → f' (egd L i).2.2 = true from fun hc i hi h1 h2 => by
                    rcases Nat.lt_succ_iff_lt_or_eq.1 hi with h | rfl
                    · exact hcl.out hc i h h1 h2
                    · exfalso; rw [Hjj.out] at h2; unfold pmB at h2; rw [Hff.out] at h2; simp at h2)
                  go_wp2
                  go_roundw
                  case rel => exact ⟨j + 1, f', ch, by omega, by go_num, rfl, (row_up (row_up (HR2.out.alloc _) hb7) hbx), hfi, Hs, hcn, hcs, ((HK.out.alloc _).up hb7).up hbx⟩
                  case measure => simp [intOf]; omega
            · have e6 : decide (y = a2) = false := by simpa using e5
              have Hfa := Lib.hid (show faF ((x : Int), a2) (row (sts t.vars) (ef, eo, et).2.2) = true by rw [Hff.out, e6]; rfl)
              have h4 : ¬ a2 = y := fun e => e5 e.symm
              have h5 : (y == a2) = false := by simpa using e5
              have h6 : (y != a2) = true := by simpa using e5
              have hneq : ∀ w, (binOp .neq 3 (.int .i64 y) (.int .i64 a2)).run Try.prog w = .ok (.bool true) w := by intro w; simp [go_sem, e5]
              obtain ⟨wq, rfl⟩ : ∃ wq : World, wq = wr := ⟨_, rfl⟩
              go_wp2_with fail
              refine wp_region_aft (by kernel_rfl) (by kernel_rfl) (by (try simp); exact rfl) ?_; intro haft; (repeat (go_big_quiet_step (fail))); refine wpQuiet_nil ?_; intro w7 hwx; have hb7 := aft_below hwx; clear hwx; obtain ⟨hc7, hf7, hz7, hlt7, hle7⟩ := cellsIf hb7 (by (try simp); exact rfl); (try have : w.heap.size < w7.heap.size := (by omega)); (try have : w.heap.size < w7.heap.size + 1 := (by omega)); (try have : w.heap.size < w7.heap.size + 1 + 1 := (by omega)); (try have : w.heap.size + 1 < w7.heap.size := (by omega)); (try have : w.heap.size + 1 < w7.heap.size + 1 := (by omega)); (try have : w.heap.size + 1 < w7.heap.size + 1 + 1 := (by omega)); (try have : w.heap.size + 1 + 1 < w7.heap.size := (by omega)); (try have : w.heap.size + 1 + 1 < w7.heap.size + 1 := (by omega)); (try have : w.heap.size + 1 + 1 < w7.heap.size + 1 + 1 := (by omega)); (try have : w1.heap.size < w7.heap.size := (by omega)); (try have : w1.heap.size < w7.heap.size + 1 := (by omega)); (try have : w1.heap.size < w7.heap.size + 1 + 1 := (by omega)); (try have : w1.heap.size + 1 < w7.heap.size := (by omega)); (try have : w1.heap.size + 1 < w7.heap.size + 1 := (by omega)); (try have : w1.heap.size + 1 < w7.heap.size + 1 + 1 := (by omega)); (try have : w1.heap.size + 1 + 1 < w7.heap.size := (by omega)); (try have : w1.heap.size + 1 + 1 < w7.heap.size + 1 := (by omega)); (try have : w1.heap.size + 1 + 1 < w7.heap.size + 1 + 1 := (by omega)); (try have : w2.heap.size < w7.heap.size := (by omega)); (try have : w2.heap.size < w7.heap.size + 1 := (by omega)); (try have : w2.heap.size < w7.heap.size + 1 + 1 := (by omega)); (try have : w2.heap.size + 1 < w7.heap.size := (by omega)); (try have : w2.heap.size + 1 < w7.heap.size + 1 := (by omega)); (try have : w2.heap.size + 1 < w7.heap.size + 1 + 1 := (by omega)); (try have : w2.heap.size + 1 + 1 < w7.heap.size := (by omega)); (try have : w2.heap.size + 1 + 1 < w7.heap.size + 1 := (by omega)); (try have : w2.heap.size + 1 + 1 < w7.heap.size + 1 + 1 := (by omega)); (try have : w3.heap.size < w7.heap.size := (by omega)); (try have : w3.heap.size < w7.heap.size + 1 := (by omega)); (try have : w3.heap.size < w7.heap.size + 1 + 1 := (by omega)); (try have : w3.heap.size + 1 < w7.heap.size := (by omega)); (try have : w3.heap.size + 1 < w7.heap.size + 1 := (by omega)); (try have : w3.heap.size + 1 < w7.heap.size + 1 + 1 := (by omega)); (try have : w3.heap.size + 1 + 1 < w7.heap.size := (by omega)); (try have : w3.heap.size + 1 + 1 < w7.heap.size + 1 := (by omega)); (try have : w3.heap.size + 1 + 1 < w7.heap.size + 1 + 1 := (by omega)); (try have : w4.heap.size < w7.heap.size := (by omega)); (try have : w4.heap.size < w7.heap.size + 1 := (by omega)); (try have : w4.heap.size < w7.heap.size + 1 + 1 := (by omega)); (try have : w4.heap.size + 1 < w7.heap.size := (by omega)); (try have : w4.heap.size + 1 < w7.heap.size + 1 := (by omega)); (try have : w4.heap.size + 1 < w7.heap.size + 1 + 1 := (by omega)); (try have : w4.heap.size + 1 + 1 < w7.heap.size := (by omega)); (try have : w4.heap.size + 1 + 1 < w7.heap.size + 1 := (by omega)); (try have : w4.heap.size + 1 + 1 < w7.heap.size + 1 + 1 := (by omega)); (try have : w5.heap.size < w7.heap.size := (by omega)); (try have : w5.heap.size < w7.heap.size + 1 := (by omega)); (try have : w5.heap.size < w7.heap.size + 1 + 1 := (by omega)); (try have : w5.heap.size + 1 < w7.heap.size := (by omega)); (try have : w5.heap.size + 1 < w7.heap.size + 1 := (by omega)); (try have : w5.heap.size + 1 < w7.heap.size + 1 + 1 := (by omega)); (try have : w5.heap.size + 1 + 1 < w7.heap.size := (by omega)); (try have : w5.heap.size + 1 + 1 < w7.heap.size + 1 := (by omega)); (try have : w5.heap.size + 1 + 1 < w7.heap.size + 1 + 1 := (by omega)); (try have : w6.heap.size < w7.heap.size := (by omega)); (try have : w6.heap.size < w7.heap.size + 1 := (by omega)); (try have : w6.heap.size < w7.heap.size + 1 + 1 := (by omega)); (try have : w6.heap.size + 1 < w7.heap.size := (by omega)); (try have : w6.heap.size + 1 < w7.heap.size + 1 := (by omega)); (try have : w6.heap.size + 1 < w7.heap.size + 1 + 1 := (by omega)); (try have : w6.heap.size + 1 + 1 < w7.heap.size := (by omega)); (try have : w6.heap.size + 1 + 1 < w7.heap.size + 1 := (by omega)); (try have : w6.heap.size + 1 + 1 < w7.heap.size + 1 + 1 := (by omega)); clear haft
              have zo : w7.cell? ⟨wq.heap.size, 1, none⟩ = some (.int .i64 (eo : Int)) := (hb7.cell (p := ⟨wq.heap.size, 1, none⟩) (by simp)).trans (by simp)
              have zt : w7.cell? ⟨wq.heap.size, 2, none⟩ = some (.int .i64 (et : Int)) := (hb7.cell (p := ⟨wq.heap.size, 2, none⟩) (by simp)).trans (by simp)
              have z7 := hb7.size
              simp only [World.size_alloc] at z7
              have hbw7 := hbw.trans ((((Below.refl wq.heap.size wq).alloc (Nat.le_refl _) (.cells #[.int .i64 (ef : Int), .int .i64 (eo : Int), .int .i64 (et : Int)] 93)).trans (hb7.mono (by simp))).mono hbw.size)
              go_wp2
              go_loopw [15, 73] (fun v i wx => ∃ (q : Nat), q ≤ ops.length ∧ i = .int .i64 q ∧ v = .bool (!anyB q fun i => nth ops i == (eo : Int)) ∧ Below w7.heap.size w7 wx) (fun _ i _ => ops.length - (intOf i).toNat)
              case atStart => exact ⟨0, by omega, rfl, rfl, Below.refl _ _⟩
              case round =>
                obtain ⟨q, hq, rfl, rfl, hbx⟩ := hrel
                have hbxz := hbx.size
                by_cases hlq : q < ops.length
                · obtain ⟨bo, oo, eO, hbo, hco⟩ := ho.at_ hlq
                  subst eO
                  have dq := ((hbw7.trans (hbx.mono hbw7.size)).cell (p := ⟨bo, oo + q, none⟩) hbo).trans (hco q hlq)
                  have gq : bo < wr.heap.size := by have := hbw7.size; omega
                  have q0 : (0 : Int) ≤ (q : Int) := by omega
                  have q1 : (q : Int) < (ops.length : Int) := by omega
                  have zo' := (hbx.cell (p := ⟨wq.heap.size, 1, none⟩) (by show wq.heap.size < _; omega)).trans zo
                  have gx : wq.heap.size < wr.heap.size := by omega
                  have Hsu := Lib.hid (anyB_succ q fun i => nth ops i == (eo : Int))
                  clear hco
                  obtain ⟨y, hy⟩ : ∃ y, nth ops q = y := ⟨_, rfl⟩
                  rw [hy] at dq Hsu
                  clear hy
                  cases e9 : anyB q fun i => nth ops i == (eo : Int)
                  · rw [e9] at Hsu
                    by_cases e8 : y = (eo : Int)
                    · have Hr := Lib.hid (show (anyB (q + 1) fun i => nth ops i == (eo : Int)) = true by rw [Hsu.out, e8]; simp)
                      subst e8
                      go_wp2
                      go_roundw
                      case rel => exact ⟨q + 1, by omega, by go_num, by rw [Hr.out]; rfl, by first | exact hbx | exact hbx.drew | exact below_dN hbx _⟩
                      case measure => simp [intOf]; omega
                    · have Hr := Lib.hid (show (anyB (q + 1) fun i => nth ops i == (eo : Int)) = false by rw [Hsu.out]; simpa using e8)
                      have e7 : decide (y = (eo : Int)) = false := by simpa using e8
                      have hneq : ∀ w, (binOp .neq 3 (.int .i64 y) (.int .i64 (eo : Int))).run Try.prog w = .ok (.bool true) w := by intro w; simp [go_sem, e8]
                      go_wp2
                      go_roundw
                      case rel => exact ⟨q + 1, by omega, by go_num, by rw [Hr.out]; simp [e8], by first | exact hbx | exact hbx.drew | exact below_dN hbx _⟩
                      case measure => simp [intOf]; omega
                  · rw [e9] at Hsu
                    have Hr := Lib.hid (show (anyB (q + 1) fun i => nth ops i == (eo : Int)) = true by rw [Hsu.out]; rfl)
                    go_wp2
                    go_roundw
                    case rel => exact ⟨q + 1, by omega, by go_num, by rw [Hr.out]; rfl, by first | exact hbx | exact hbx.drew | exact below_dN hbx _⟩
                    case measure => simp [intOf]; omega
                · obtain rfl : q = ops.length := by omega
                  cases e9 : anyB ops.length fun i => nth ops i == (eo : Int)
                  case true =>
                    have Hs := Lib.hid (show ch = false → ∀ i, i < j + 1 → f' (egd L i).1 = true → pmB t ((x : Int), a2) ops (egd L i) = true → f' (egd L i).2.2 = true from fun hc i hi h1 h2 => by
                      rcases Nat.lt_succ_iff_lt_or_eq.1 hi with h | rfl
                      · exact hcl.out hc i h h1 h2
                      · exfalso; rw [Hjj.out] at h2; unfold pmB opF at h2; rw [e9] at h2; simp at h2)
                    go_wp2
                    go_roundw
                    case rel => exact ⟨j + 1, f', ch, by omega, by go_num, rfl, (row_up (row_up (HR2.out.alloc _) hb7) hbx), hfi, Hs, hcn, hcs, ((HK.out.alloc _).up hb7).up hbx⟩
                    case measure => simp [intOf]; omega
                  have Hmk := Lib.hid (Hmark.out (by unfold pmB opF; rw [e9, Hfa.out]; rfl))
                  have Hcc := Lib.hid (show cntF (setF f' et) N < cntF f N by have := cntF_set e2 hto; have := hcn.out; omega)
                  have hR9 := row_up (row_up (HR2.out.alloc (.cells #[.int .i64 (ef : Int), .int .i64 (eo : Int), .int .i64 (et : Int)] 93)) hb7) hbx
                  have s2 := hR9.cell hto
                  have s3 := hR9.frozen et
                  have s4 := hR9.lt
                  have zt' := (hbx.cell (p := ⟨wq.heap.size, 2, none⟩) (by show wq.heap.size < _; omega)).trans zt
                  have gx : wq.heap.size < wr.heap.size := by omega
                  have HR9 := Lib.hid (row_mark2 hR9 et)
                  clear hR9
                  go_wp2
                  go_roundw
                  case rel => exact ⟨j + 1, setF f' et, true, by omega, by go_num, rfl, HR9.out, Hmk, Lib.hid (fun h => by cases h), Lib.hid (by have := Hcc.out; omega), Lib.hid (fun _ => Hcc.out), (((HK.out.alloc _).up hb7).up hbx).set (p := ⟨w2.heap.size, et, none⟩) (Nat.le_refl _) (Nat.lt_succ_self _) _⟩
                  case measure => simp [intOf]; omega
        · obtain rfl : j = L.length := by omega
          have Hg := Lib.hid (show 2 * cntF f' N + (if ch then 1 else 0) < gk by
            have h1 := Hgk.out
            have h2 := hcs.out
            have h3 := hcn.out
            cases ch
            · simp at h1 ⊢; omega
            · have := h2 rfl; simp at h1 ⊢; omega)
          go_wp2
          go_roundg (2 * cntF f' N + (if ch then 1 else 0))
          case measure => exact Hg.out
          case rel => exact ⟨f', ch, rfl, rfl, hrow, hfi, hcl, hkp⟩

end Go.Proofs.Ythhfckjddknmeaa
