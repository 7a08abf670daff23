/- law36.arrives; what landmarks say of walks: plain. -/
import Derived.Test.YthhfckjddknmeaaWlkW
import Derived.Test.YthhfckjddknmeaaLmV
namespace Go.Proofs.Ythhfckjddknmeaa
set_option linter.unusedSimpArgs false
set_option linter.unusedVariables false
open Go Go.RowKit
set_option linter.unusedVariables false

set_option maxRecDepth 100000 in
set_option maxHeartbeats 8000000 in
theorem arrives36_any (t : Tsk) (p : Lies) (M : Nat → Bool) (g : Nat) (l : List (Int × Int)) (F : Option Addr) (c : Nat) (w : World) (ht : TaskAt w w.heap.size t p) (hm : w.rowIs g 4 (sts t.vars).length (fun i => .bool (M i))) (hl : FactsAt w w.heap.size F l) (hS : Smll t) :
    Calls Try.prog 14 #[TaskV t p, .slice (some ⟨g, 0, none⟩) (sts t.vars).length (sts t.vars).length, .slice F l.length c] w fun e w' => e = .returned (.bool (arB36 t M l)) ∧ Below w.heap.size w w' := by
  have k1 := fun w1 (hb : Below w.heap.size w w1) => bstates_any t.vars p.av p.cv w1 (ht.vars.up hb) hS.right.dom (by have := hS.many; omega) hS.right.nv
  have k3 := fun w1 (s : List Int) (A : Option Addr) (d : Nat) (hb : Below w.heap.size w w1) (h : IntsAt w1 w1.heap.size A s) => bholds_any l s F A c d w1 (hl.up hb) h
  have hN3 : (sts t.vars).length ≤ 512 := by have := sts_len hS.right; have := hS.many; omega
  have K1 := Lib.hid k1
  have K3 := Lib.hid k3
  have HG : Hid (arB36 t M l = anyB (sts t.vars).length fun i => M i && hoB l (row (sts t.vars) i)) := rfl
  have HM := Lib.hid hm
  have gg := hm.lt
  clear k1 k3 hS hm
  obtain ⟨av, ai, ag, ao, cv, ci, cg, co⟩ := p
  unfold TaskV at *
  dsimp only at *
  go_enter Try.func14, Try.ntmps14
  go_wp2_with fail
  refine (K1.out _ (by repeat (first | exact Below.refl _ _ | refine below_dN ?_ _ | refine Below.drew ?_ | refine Below.alloc ?_ (by first | omega | (simp; done) | (simp; omega)) _ | refine Below.setCell ?_ (by first | omega | (simp; done) | (simp; omega)) _ | refine below_step (by assumption) (by first | omega | (simp; done) | (simp; omega)) ?_))).mono ?_
  rintro e w2 ⟨⟨v2, rfl, A, c2, rfl, hrows⟩, hb2⟩
  have hbw2 : Below w.heap.size w w2 := ((Below.refl _ _).alloc (Nat.le_refl _) _).trans (hb2.mono (by simp))
  have Hrows := Lib.hid hrows
  have z2 := hbw2.size
  have HM2 := Lib.hid (row_up HM.out hbw2)
  clear hrows hb2
  obtain ⟨N, hNN⟩ : ∃ N, N = (sts t.vars).length := ⟨_, rfl⟩
  rw [← hNN] at HM2 HG hN3
  rw [← hNN]
  have HN := Lib.hid hNN
  clear hNN
  go_wp2
  go_loopw [13] (fun i wr => ∃ (k : Nat), k ≤ N ∧ i = .int .i64 k ∧ Hid ((anyB k fun i => M i && hoB l (row (sts t.vars) i)) = false) ∧ Below w2.heap.size w2 wr) (fun i _ => N - (intOf i).toNat)
  case atStart => exact ⟨0, by omega, rfl, rfl, Below.refl _ _⟩
  case round =>
    obtain ⟨k, hk, rfl, hB, hbel⟩ := hrel
    obtain ⟨wt, rfl⟩ : ∃ wt : World, wt = wr := ⟨_, rfl⟩
    have hbz := hbel.size
    by_cases hlt : k < N
    · obtain ⟨b1, eA, hb1, hc1⟩ := Hrows.out (by have := HN.out; omega)
      subst eA
      obtain ⟨S, cS, f1, f2, f3⟩ := hc1 k (by have := HN.out; omega)
      have d1 := (hbel.cell (p := ⟨b1, k, none⟩) hb1).trans f1
      have g1 : b1 < wt.heap.size := by omega
      have m := row_up HM2.out hbel
      have m1 := m.cell hlt
      have m2 := m.lt
      have k0 : (0 : Int) ≤ (k : Int) := by omega
      have k1 : (k : Int) < (N : Int) := by omega
      obtain ⟨s, hs⟩ : ∃ s, s = row (sts t.vars) k := ⟨_, rfl⟩
      rw [← hs] at d1 f3
      have Hs := Lib.hid hs
      have hbw := hbw2.trans (hbel.mono z2)
      have K3' := Lib.hid (fun wx (hb : Below wt.heap.size wt wx) => K3.out wx s S cS (hbw.trans (hb.mono hbw.size)) ((f3.up hbel).up hb))
      clear hc1 f1 f3 hs m
      cases e1 : M k
      · rw [e1] at m1
        have Hx := Lib.hid (show (anyB (k + 1) fun i => M i && hoB l (row (sts t.vars) i)) = false by rw [anyB_succ, hB.out, e1]; rfl)
        go_wp2
        go_roundw
        case rel => exact ⟨k + 1, by omega, by go_num, Hx, by first | exact hbel | exact hbel.drew | exact below_dN hbel _⟩
        case measure => simp [intOf]; omega
      rw [e1] at m1
      cases e2 : hoB l s
      · rw [e2] at K3'
        have Hx := Lib.hid (show (anyB (k + 1) fun i => M i && hoB l (row (sts t.vars) i)) = false by rw [anyB_succ, hB.out, e1, ← Hs.out, e2]; rfl)
        go_wp2_with fail; refine (K3'.out _ (by repeat (first | exact Below.refl _ _ | refine below_dN ?_ _ | refine Below.drew ?_ | refine Below.alloc ?_ (by first | omega | (simp; done) | (simp; omega)) _ | refine Below.setCell ?_ (by first | omega | (simp; done) | (simp; omega)) _ | refine below_step (by assumption) (by first | omega | (simp; done) | (simp; omega)) ?_))).mono ?_; rintro e w3 ⟨rfl, hb3⟩; obtain ⟨hc3, hf3, hz3, hlt3, hle3⟩ := cellsIf hb3 (by (try simp); exact rfl); (try have : w.heap.size < w3.heap.size := (by omega)); (try have : w.heap.size < w3.heap.size + 1 := (by omega)); (try have : w.heap.size < w3.heap.size + 1 + 1 := (by omega)); (try have : w.heap.size + 1 < w3.heap.size := (by omega)); (try have : w.heap.size + 1 < w3.heap.size + 1 := (by omega)); (try have : w.heap.size + 1 < w3.heap.size + 1 + 1 := (by omega)); (try have : w.heap.size + 1 + 1 < w3.heap.size := (by omega)); (try have : w.heap.size + 1 + 1 < w3.heap.size + 1 := (by omega)); (try have : w.heap.size + 1 + 1 < w3.heap.size + 1 + 1 := (by omega)); (try have : w1.heap.size < w3.heap.size := (by omega)); (try have : w1.heap.size < w3.heap.size + 1 := (by omega)); (try have : w1.heap.size < w3.heap.size + 1 + 1 := (by omega)); (try have : w1.heap.size + 1 < w3.heap.size := (by omega)); (try have : w1.heap.size + 1 < w3.heap.size + 1 := (by omega)); (try have : w1.heap.size + 1 < w3.heap.size + 1 + 1 := (by omega)); (try have : w1.heap.size + 1 + 1 < w3.heap.size := (by omega)); (try have : w1.heap.size + 1 + 1 < w3.heap.size + 1 := (by omega)); (try have : w1.heap.size + 1 + 1 < w3.heap.size + 1 + 1 := (by omega)); (try have : w2.heap.size < w3.heap.size := (by omega)); (try have : w2.heap.size < w3.heap.size + 1 := (by omega)); (try have : w2.heap.size < w3.heap.size + 1 + 1 := (by omega)); (try have : w2.heap.size + 1 < w3.heap.size := (by omega)); (try have : w2.heap.size + 1 < w3.heap.size + 1 := (by omega)); (try have : w2.heap.size + 1 < w3.heap.size + 1 + 1 := (by omega)); (try have : w2.heap.size + 1 + 1 < w3.heap.size := (by omega)); (try have : w2.heap.size + 1 + 1 < w3.heap.size + 1 := (by omega)); (try have : w2.heap.size + 1 + 1 < w3.heap.size + 1 + 1 := (by omega))
        go_wp2
        go_roundw
        case rel => exact ⟨k + 1, by omega, by go_num, Hx, hbel.trans (hb3.mono (by first | exact hbz | (simp; omega)))⟩
        case measure => simp [intOf]; omega
      · rw [e2] at K3'
        have Hx := Lib.hid (show arB36 t M l = true by rw [HG.out]; exact anyB_true.2 ⟨k, hlt, by rw [e1, ← Hs.out, e2]; rfl⟩)
        go_wp2_with fail; refine (K3'.out _ (by repeat (first | exact Below.refl _ _ | refine below_dN ?_ _ | refine Below.drew ?_ | refine Below.alloc ?_ (by first | omega | (simp; done) | (simp; omega)) _ | refine Below.setCell ?_ (by first | omega | (simp; done) | (simp; omega)) _ | refine below_step (by assumption) (by first | omega | (simp; done) | (simp; omega)) ?_))).mono ?_; rintro e w3 ⟨rfl, hb3⟩; obtain ⟨hc3, hf3, hz3, hlt3, hle3⟩ := cellsIf hb3 (by (try simp); exact rfl); (try have : w.heap.size < w3.heap.size := (by omega)); (try have : w.heap.size < w3.heap.size + 1 := (by omega)); (try have : w.heap.size < w3.heap.size + 1 + 1 := (by omega)); (try have : w.heap.size + 1 < w3.heap.size := (by omega)); (try have : w.heap.size + 1 < w3.heap.size + 1 := (by omega)); (try have : w.heap.size + 1 < w3.heap.size + 1 + 1 := (by omega)); (try have : w.heap.size + 1 + 1 < w3.heap.size := (by omega)); (try have : w.heap.size + 1 + 1 < w3.heap.size + 1 := (by omega)); (try have : w.heap.size + 1 + 1 < w3.heap.size + 1 + 1 := (by omega)); (try have : w1.heap.size < w3.heap.size := (by omega)); (try have : w1.heap.size < w3.heap.size + 1 := (by omega)); (try have : w1.heap.size < w3.heap.size + 1 + 1 := (by omega)); (try have : w1.heap.size + 1 < w3.heap.size := (by omega)); (try have : w1.heap.size + 1 < w3.heap.size + 1 := (by omega)); (try have : w1.heap.size + 1 < w3.heap.size + 1 + 1 := (by omega)); (try have : w1.heap.size + 1 + 1 < w3.heap.size := (by omega)); (try have : w1.heap.size + 1 + 1 < w3.heap.size + 1 := (by omega)); (try have : w1.heap.size + 1 + 1 < w3.heap.size + 1 + 1 := (by omega)); (try have : w2.heap.size < w3.heap.size := (by omega)); (try have : w2.heap.size < w3.heap.size + 1 := (by omega)); (try have : w2.heap.size < w3.heap.size + 1 + 1 := (by omega)); (try have : w2.heap.size + 1 < w3.heap.size := (by omega)); (try have : w2.heap.size + 1 < w3.heap.size + 1 := (by omega)); (try have : w2.heap.size + 1 < w3.heap.size + 1 + 1 := (by omega)); (try have : w2.heap.size + 1 + 1 < w3.heap.size := (by omega)); (try have : w2.heap.size + 1 + 1 < w3.heap.size + 1 := (by omega)); (try have : w2.heap.size + 1 + 1 < w3.heap.size + 1 + 1 := (by omega))
        have hbw3 : Below w.heap.size w w3 := hbw.trans (hb3.mono (by first | exact hbw.size | (have := hbw.size; simp; omega)))
        go_wp2
        go_ret
        exact ⟨bool_ret Hx.out.symm, hbw3⟩
    · obtain rfl : k = N := by omega
      have Hx := Lib.hid (show arB36 t M l = false by rw [HG.out, hB.out])
      go_wp2
      go_ret
      exact ⟨bool_ret Hx.out.symm, hbw2.trans (hbel.mono z2)⟩

section
variable {t : Tsk} {s : List Int} {a : Int × Int} {ops : List Int}
theorem ap_fact {s' : List Int} {es : List Eff} (hes : ∀ i, i < es.length → 0 ≤ (eff es i).var ∧ (eff es i).var < s'.length) : ∀ (j : Nat), j ≤ es.length → ∀ v, v < s'.length → nth (apE s' es j) v = nth s' v ∨ ∃ i, i < j ∧ (eff es i).var.toNat = v ∧ (eff es i).val = nth (apE s' es j) v ∧ hoB (eff es i).whn s' = true
  | 0, _, v, hv => .inl rfl
  | j + 1, hj, v, hv => by
    have ih := ap_fact hes j (by omega) v hv
    have he := hes j (by omega)
    unfold apE
    split
    · rename_i hw
      rw [nth_set (by rw [apE_len]; omega)]
      split
      · rename_i e
        exact .inr ⟨j, by omega, e, rfl, hw⟩
      · rcases ih with h | ⟨i, h1, h2, h3, h4⟩
        · exact .inl h
        · exact .inr ⟨i, by omega, h2, h3, h4⟩
    · rcases ih with h | ⟨i, h1, h2, h3, h4⟩
      · exact .inl h
      · exact .inr ⟨i, by omega, h2, h3, h4⟩
theorem ho_rch {l : List (Int × Int)} {s' : List Int} (hn : s'.length = t.vars.length) (hl : hoB l s' = true) (h : ∀ v, v < t.vars.length → Rch t s a v (nth s' v).toNat) : ∀ i, i < l.length → Rch t s a (fv l i).toNat (fx l i).toNat := fun i hi => by
  unfold hoB at hl
  simp only [decide_eq_true_eq] at hl
  obtain ⟨h1, h2, h3⟩ := hl i hi
  rw [← h3]
  exact h _ (by omega)
/-- Whatever holds on the way is reached. -/
theorem wlk_rch (hr : Right t) (hst : stB t.vars s = true) {s' : List Int} (hw : Wlk t s a ops s') : ∀ v, v < t.vars.length → Rch t s a v (nth s' v).toNat := by
  induction hw with
  | start => exact fun v hv => Rch.start hv
  | @step s' k hw hk hp hf ho ih =>
    intro v hv
    have hs' := wlk_st hr hst hw
    have hn := stB_len hs'
    have hs2 := st_nxt' hr hs' hk
    rcases ap_fact (s' := s') (es := (opr t.ops k).effs) (fun i hi => by have := hr.eff k hk i hi; omega) (opr t.ops k).effs.length (Nat.le_refl _) v (by omega) with h | ⟨i, h1, h2, h3, h4⟩
    · show Rch t s a v (nth (apE s' (opr t.ops k).effs (opr t.ops k).effs.length) v).toNat
      rw [h]; exact ih v hv
    · have hne : efF t k i ≠ a := fun e => by
        have he := hr.eff k hk i h1
        unfold faF at hf
        rw [← e] at hf
        have hlt : ¬ (efF t k i).1 < 0 := by show ¬ (eff (opr t.ops k).effs i).var < 0; omega
        rw [decide_eq_false hlt, Bool.false_or, Bool.not_eq_true', decide_eq_false_iff_not] at hf
        apply hf
        show nth (apE s' (opr t.ops k).effs (opr t.ops k).effs.length) (eff (opr t.ops k).effs i).var.toNat = (eff (opr t.ops k).effs i).val
        rw [h2, h3]
      have := Rch.step (s := s) hk h1 hne (ho_rch hn hp ih) (ho_rch hn h4 ih)
      have e1 : (efF t k i).1.toNat = v := h2
      have e2 : (efF t k i).2 = nth (nxt t s' k) v := h3
      rw [e1, e2] at this
      exact this
theorem wlk_hs (hr : Right t) (hst : stB t.vars s = true) {s' : List Int} (hw : Wlk t s a ops s') {l : List (Int × Int)} (hl : hoB l s' = true) : hsM l (rcB t s a) = true :=
  hsM_iff.2 fun i hi => rcB_iff.2 (ho_rch (stB_len (wlk_st hr hst hw)) hl (wlk_rch hr hst hw) i hi)
/-- No goal is reached without a landmark. -/
theorem arr_no (hr : Right t) (hst : stB t.vars s = true) {l : List (Int × Int)} (h : hsM l (rcB t s a) = false) : arB36 t (wlB t s a ops) l = false := by
  rw [Bool.eq_false_iff]
  intro hh
  obtain ⟨s', hw, hl⟩ := (arr_iff hr hst).1 hh
  rw [wlk_hs hr hst hw hl] at h
  cases h
end

end Go.Proofs.Ythhfckjddknmeaa
