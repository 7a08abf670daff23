/- TaskSplits, plain: runs in two parts; values that effects leave. -/
import Derived.Test.YtbbgbogenkcooaaTaskS
import Derived.Test.YtbbgbogenkcooaaRankP
namespace Go.Proofs.Ytbbgbogenkcooaa
set_option linter.unusedSimpArgs false
set_option linter.unusedVariables false
open Go.RowKit
set_option linter.unusedVariables false

theorem mal_val {t : Tsk} (h : malT t = false) {k j : Nat} (hk : k < t.ops.length) (hj : j < (opr t.ops k).effs.length) : 0 ≤ (eff (opr t.ops k).effs j).val ∧ (eff (opr t.ops k).effs j).val < nth t.vars (eff (opr t.ops k).effs j).var.toNat := by
  unfold malT at h
  simp only [Bool.or_eq_false_iff, anyB_false] at h
  have h1 := h.2 k hk
  unfold malO at h1
  simp only [Bool.or_eq_false_iff, anyB_false] at h1
  have h2 := h1.2 j hj
  unfold malE at h2
  simp only [Bool.or_eq_false_iff, Bool.not_eq_false'] at h2
  have h3 := h2.2
  unfold faB at h3
  simp only [decide_eq_true_eq] at h3
  have h4 := h3 0 (by simp)
  exact ⟨h4.2.2.1, h4.2.2.2.1⟩
theorem stP_set {vars s : List Int} (h : StP vars s) {i : Nat} {x : Int} (hi : i < s.length) (h0 : 0 ≤ x) (h1 : x < nth vars i) : StP vars (s.set i x) := by
  refine ⟨by rw [List.length_set]; exact h.1, fun k hk => ?_⟩
  rw [List.length_set] at hk
  rw [nth_set hi]
  split
  · rename_i e; subst e; exact ⟨h0, h1⟩
  · exact h.2 k hk
theorem st_apE {t : Tsk} {s : List Int} (hm : malT t = false) (hs : stB t.vars s = true) {k : Nat} (hk : k < t.ops.length) : ∀ j, j ≤ (opr t.ops k).effs.length → stB t.vars (apE s (opr t.ops k).effs j) = true
  | 0, _ => hs
  | j + 1, hj => by
    have ih := st_apE hm hs hk j (by omega)
    unfold apE
    split
    · have h1 := mal_var hm hk (show j < (opr t.ops k).effs.length by omega)
      have h2 := mal_val hm hk (show j < (opr t.ops k).effs.length by omega)
      have hl := stB_len hs
      unfold stB at ih ⊢
      simp only [decide_eq_true_eq] at ih ⊢
      exact stP_set ih (by rw [apE_len]; omega) h2.1 h2.2
    · exact ih
theorem st_nxt {t : Tsk} {s : List Int} {op : Int} (hm : malT t = false) (h : apC t s op = 0) : stB t.vars (nxt t s op.toNat) = true := by
  have ho := ap_ok h
  exact st_apE hm ho.2.2.1 (by omega) _ (Nat.le_refl _)

theorem runS_cons (t : Tsk) (op : Int) (r s : List Int) (c : Int) : runS t (op :: r) s c = if apC t s op = 0 then runS t r (nxt t s op.toNat) (c + (opr t.ops op.toNat).cost) else ([], 0, apC t s op) := rfl
theorem runS_app (t : Tsk) : ∀ (p q s : List Int) (c : Int), runS t (p ++ q) s c = if (runS t p s c).2.2 = 0 then runS t q (runS t p s c).1 (runS t p s c).2.1 else ([], 0, (runS t p s c).2.2)
  | [], q, s, c => rfl
  | op :: p, q, s, c => by
    simp only [List.cons_append, runS_cons]
    by_cases h : apC t s op = 0
    · simp only [h, ite_true]; exact runS_app t p q _ _
    · simp only [if_neg h]
theorem runS_err (t : Tsk) : ∀ (p s : List Int) (c : Int), (runS t p s c).2.2 ≠ 0 → runS t p s c = ([], 0, (runS t p s c).2.2)
  | [], s, c, h => absurd rfl h
  | op :: p, s, c, h => by
    unfold runS at h ⊢
    by_cases h0 : apC t s op = 0
    · rw [if_pos h0] at h ⊢; exact runS_err t p _ _ h
    · rw [if_neg h0]
theorem runS_off (t : Tsk) (d : Int) : ∀ (q s : List Int) (c : Int), (runS t q s (c + d)).1 = (runS t q s c).1 ∧ (runS t q s (c + d)).2.2 = (runS t q s c).2.2 ∧ ((runS t q s c).2.2 = 0 → (runS t q s (c + d)).2.1 = (runS t q s c).2.1 + d)
  | [], s, c => ⟨rfl, rfl, fun _ => rfl⟩
  | op :: q, s, c => by
    unfold runS
    by_cases h : apC t s op = 0
    · rw [if_pos h, if_pos h, show c + d + (opr t.ops op.toNat).cost = c + (opr t.ops op.toNat).cost + d by omega]
      exact runS_off t d q _ _
    · rw [if_neg h, if_neg h]; exact ⟨rfl, rfl, fun h0 => absurd h0 h⟩
theorem runS_st {t : Tsk} (hm : malT t = false) : ∀ (p s : List Int) (c : Int), stB t.vars s = true → (runS t p s c).2.2 = 0 → stB t.vars (runS t p s c).1 = true
  | [], s, c, hs, _ => hs
  | op :: p, s, c, hs, h => by
    unfold runS at h ⊢
    by_cases h0 : apC t s op = 0
    · rw [if_pos h0] at h ⊢; exact runS_st hm p _ _ (st_nxt hm h0) h
    · rw [if_neg h0] at h; exact absurd h h0
theorem runS_bd {t : Tsk} (ho : outT t = false) : ∀ (p s : List Int) (c : Int), 0 ≤ c → 0 ≤ (runS t p s c).2.1 ∧ (runS t p s c).2.1 ≤ c + p.length * 1048576
  | [], s, c, hc => ⟨hc, by show c ≤ _; simp⟩
  | op :: p, s, c, hc => by
    unfold runS
    by_cases h0 : apC t s op = 0
    · rw [if_pos h0]
      have ha := ap_ok h0
      have hb := out_cost ho (show op.toNat < t.ops.length by omega)
      have := runS_bd ho p (nxt t s op.toNat) (c + (opr t.ops op.toNat).cost) (by omega)
      simp only [List.length_cons]
      omega
    · rw [if_neg h0]; simp only [List.length_cons]; exact ⟨Int.le_refl _, by show (0 : Int) ≤ _; omega⟩

theorem run_ok {t : Tsk} {s p : List Int} (h : (runR t s p).2.2 = 0) : chkC t = 0 ∧ stB t.vars s = true := by
  unfold runR at h
  by_cases h0 : chkC t = 0
  · rw [if_pos h0] at h
    cases h1 : stB t.vars s
    · rw [h1] at h; simp at h
    · exact ⟨h0, rfl⟩
  · rw [if_neg h0] at h; exact absurd h h0
theorem run_eq {t : Tsk} {s p : List Int} (h0 : chkC t = 0) (h1 : stB t.vars s = true) (hl : p.length ≤ 200) : runR t s p = runS t p s 0 := by
  have h2 : ¬ (65536 : Int) < (p.length : Int) := by omega
  unfold runR
  rw [if_pos h0, h1, if_pos rfl, if_neg h2]
theorem run_chk {t : Tsk} {s p : List Int} (h : chkC t ≠ 0) : runR t s p = ([], 0, chkC t) := by unfold runR; rw [if_neg h]
theorem run_no {t : Tsk} {s p : List Int} (h0 : chkC t = 0) (h1 : stB t.vars s = false) : runR t s p = ([], 0, 2) := by unfold runR; rw [if_pos h0, h1]; rfl
theorem split_bad {t : Tsk} {s p q : List Int} (hl : p.length + q.length ≤ 200) (h : (runR t s p).2.2 ≠ 0) : (runR t s (p ++ q)).2.2 = (runR t s p).2.2 := by
  by_cases h0 : chkC t = 0
  · cases h1 : stB t.vars s
    · rw [run_no h0 h1, run_no h0 h1]
    · have e1 := run_eq (p := p) h0 h1 (by omega)
      have e2 := run_eq (p := p ++ q) h0 h1 (by rw [List.length_append]; omega)
      rw [e1] at h
      rw [e1, e2, runS_app, if_neg h]
  · rw [run_chk h0, run_chk h0]
structure Split (t : Tsk) (R R0 R1 : List Int × Int × Int) : Prop where
  code : R.2.2 = R1.2.2
  state : R.1 = R1.1
  cost : R.2.2 = 0 → R.2.1 = R0.2.1 + R1.2.1
  a0 : 0 ≤ R0.2.1
  a1 : R0.2.1 ≤ 209715200
  b0 : 0 ≤ R1.2.1
  b1 : R1.2.1 ≤ 209715200
  chk : chkC t = 0
  st : stB t.vars R0.1 = true
theorem split_good {t : Tsk} {s p q : List Int} (hl : p.length + q.length ≤ 200) (h : (runR t s p).2.2 = 0) : Split t (runR t s (p ++ q)) (runR t s p) (runR t (runR t s p).1 q) := by
  obtain ⟨h0, h1⟩ := run_ok h
  have hk := chk0 h0
  have e1 := run_eq (p := p) h0 h1 (by omega)
  have e2 := run_eq (p := p ++ q) h0 h1 (by rw [List.length_append]; omega)
  rw [e1] at h
  have h2 := runS_st hk.2.2.1 p s 0 h1 h
  have e3 := run_eq (p := q) h0 h2 (by omega)
  rw [e1, e2, e3]
  have b1 := runS_bd hk.2.1 p s 0 (by omega)
  have b2 := runS_bd hk.2.1 q (runS t p s 0).1 0 (by omega)
  have e4 := runS_app t p q s 0
  rw [if_pos h] at e4
  have e5 := runS_off t (runS t p s 0).2.1 q (runS t p s 0).1 0
  rw [Int.zero_add] at e5
  rw [e4]
  generalize runS t p s 0 = x at *
  generalize runS t q x.1 0 = y at *
  generalize runS t q x.1 x.2.1 = z at *
  exact ⟨e5.2.1, e5.1, fun hh => by rw [e5.2.2 (by rw [← e5.2.1]; exact hh)]; omega, b1.1, by omega, b2.1, by omega, h0, h2⟩

/-- What the first j effects make of variable v. -/
def laV (s : List Int) (es : List Eff) (v : Nat) : Nat → Int
  | 0 => nth s v
  | j + 1 => if (eff es j).var = v ∧ hoB (eff es j).whn s = true then (eff es j).val else laV s es v j
theorem la_eq {s : List Int} {es : List Eff} {v : Nat} (hv : v < s.length) : ∀ (j : Nat), (∀ i, i < j → 0 ≤ (eff es i).var ∧ (eff es i).var < s.length) → nth (apE s es j) v = laV s es v j
  | 0, _ => rfl
  | j + 1, h => by
    have ih := la_eq (es := es) hv j fun i hi => h i (by omega)
    have hj := h j (by omega)
    unfold apE laV
    by_cases h1 : hoB (eff es j).whn s = true
    · rw [if_pos h1, nth_set (by rw [apE_len]; omega)]
      by_cases h2 : (eff es j).var = v
      · rw [if_pos (by omega), if_pos ⟨h2, h1⟩]
      · rw [if_neg (by omega), if_neg (fun hh => h2 hh.1), ih]
    · rw [if_neg h1, if_neg (fun hh => h1 hh.2), ih]

end Go.Proofs.Ytbbgbogenkcooaa
