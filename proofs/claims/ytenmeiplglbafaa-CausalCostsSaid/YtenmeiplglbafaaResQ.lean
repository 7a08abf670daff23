/- The restricted task, plain: it is right; a state's restriction; operators of both. No program in sight. -/
import Derived.Test.YtenmeiplglbafaaResP
import Derived.Test.YtenmeiplglbafaaRankP
import Derived.Test.YtenmeiplglbafaaTaskO
namespace Go.Proofs.Ytenmeiplglbafaa
set_option linter.unusedSimpArgs false
set_option linter.unusedVariables false
open Go.RowKit
set_option linter.unusedVariables false

section
variable {f : Nat → Bool}
theorem cntR_mono {v n : Nat} (h : v ≤ n) : cntR f v ≤ cntR f n := by
  induction n with
  | zero => have : v = 0 := by omega
            subst this; exact Nat.le_refl _
  | succ n ih =>
    by_cases e : v = n + 1
    · subst e; exact Nat.le_refl _
    · have h1 := ih (by omega)
      have h2 : cntR f n ≤ cntR f (n + 1) := Nat.le_add_right _ _
      omega
theorem cntR_lt {v n : Nat} (h : v < n) (hf : f v = true) : cntR f v < cntR f n := by
  have h1 : cntR f (v + 1) ≤ cntR f n := cntR_mono h
  have h2 : cntR f (v + 1) = cntR f v + 1 := by show cntR f v + (if f v then 1 else 0) = _; rw [hf]; rfl
  omega
theorem nth_app {a b : List Int} {i : Nat} (h : i < a.length) : nth (a ++ b) i = nth a i := by unfold nth; simp [List.getD, List.getElem?_append_left h]
theorem nth_end {a : List Int} {x : Int} : nth (a ++ [x]) a.length = x := by unfold nth; simp [List.getD]
theorem keN_nth {l : List Int} {v : Nat} (hf : f v = true) : ∀ {n : Nat}, v < n → nth (keN f l n) (cntR f v) = nth l v
  | 0, h => absurd h (by omega)
  | n + 1, h => by
    by_cases e : v = n
    · subst e
      rw [keN_yes hf, ← keN_len f l v]; exact nth_end
    · have hlt : v < n := by omega
      have hc := cntR_lt (f := f) hlt hf
      have ih := keN_nth (l := l) hf hlt
      cases hn : f n
      · rw [keN_no hn]; exact ih
      · rw [keN_yes hn, nth_app (by rw [keN_len]; exact hc)]; exact ih
theorem keN_set {l : List Int} {v : Nat} {x : Int} (hv : v < l.length) : ∀ {n : Nat}, keN f (l.set v x) n = if v < n ∧ f v = true then (keN f l n).set (cntR f v) x else keN f l n
  | 0 => by rw [if_neg (by omega)]; rfl
  | n + 1 => by
    have ih := keN_set (l := l) (v := v) (x := x) hv (n := n)
    cases hn : f n
    · rw [keN_no hn, keN_no hn, ih]
      by_cases hf : f v = true
      · have : v ≠ n := fun e => by rw [e, hn] at hf; cases hf
        by_cases hlt : v < n
        · rw [if_pos ⟨hlt, hf⟩, if_pos ⟨by omega, hf⟩]
        · rw [if_neg (by omega), if_neg (by omega)]
      · rw [if_neg (fun h => hf h.2), if_neg (fun h => hf h.2)]
    · rw [keN_yes hn, keN_yes hn, ih]
      by_cases e : v = n
      · subst e
        rw [if_neg (by omega), if_pos ⟨Nat.lt_succ_self _, hn⟩, nth_set hv, if_pos rfl, ← keN_len f l v, List.set_append_right _ _ (Nat.le_refl _)]
        simp
      · rw [nth_set hv, if_neg e]
        by_cases hf : f v = true
        · by_cases hlt : v < n
          · rw [if_pos ⟨hlt, hf⟩, if_pos ⟨by omega, hf⟩, List.set_append_left _ _ (by rw [keN_len]; exact cntR_lt hlt hf)]
          · rw [if_neg (by omega), if_neg (by omega)]
        · rw [if_neg (fun h => hf h.2), if_neg (fun h => hf h.2)]
theorem keN_cong {l m : List Int} {n : Nat} (h : ∀ v, v < n → nth l v = nth m v) : keN f l n = keN f m n := by
  induction n with
  | zero => rfl
  | succ n ih =>
    have := ih fun v hv => h v (by omega)
    cases hn : f n
    · rw [keN_no hn, keN_no hn, this]
    · rw [keN_yes hn, keN_yes hn, this, h n (by omega)]
end

theorem fv_app' {l : List (Int × Int)} {x : Int × Int} {k : Nat} (h : k < l.length) : fv (l ++ [x]) k = fv l k := by unfold fv; simp [List.getD, List.getElem?_append_left h]
theorem fx_app' {l : List (Int × Int)} {x : Int × Int} {k : Nat} (h : k < l.length) : fx (l ++ [x]) k = fx l k := by unfold fx; simp [List.getD, List.getElem?_append_left h]
theorem fv_last' {l : List (Int × Int)} {x : Int × Int} : fv (l ++ [x]) l.length = x.1 := by unfold fv; simp [List.getD]
theorem fx_last' {l : List (Int × Int)} {x : Int × Int} : fx (l ++ [x]) l.length = x.2 := by unfold fx; simp [List.getD]
theorem hoP_app {l : List (Int × Int)} {x : Int × Int} {s : List Int} : HoP (l ++ [x]) s ↔ HoP l s ∧ 0 ≤ x.1 ∧ x.1 < s.length ∧ nth s x.1.toNat = x.2 := by
  constructor
  · intro h
    refine ⟨fun k hk => ?_, ?_⟩
    · have := h k (by simp; omega)
      rwa [fv_app' hk, fx_app' hk] at this
    · have := h l.length (by simp)
      rwa [fv_last', fx_last'] at this
  · rintro ⟨h1, h2⟩ k hk
    by_cases e : k < l.length
    · rw [fv_app' e, fx_app' e]; exact h1 k e
    · have : k = l.length := by simp at hk; omega
      subst this
      rw [fv_last', fx_last']; exact h2
theorem faP_app {vars : List Int} {l : List (Int × Int)} {x : Int × Int} : FaP vars (l ++ [x]) ↔ FaP vars l ∧ 0 ≤ x.1 ∧ x.1 < vars.length ∧ 0 ≤ x.2 ∧ x.2 < nth vars x.1.toNat ∧ (0 < l.length → fv l (l.length - 1) < x.1) := by
  constructor
  · intro h
    refine ⟨fun k hk => ?_, ?_⟩
    · have := h k (by simp; omega)
      rw [fv_app' hk, fx_app' hk] at this
      exact ⟨this.1, this.2.1, this.2.2.1, this.2.2.2.1, fun h0 => by have := this.2.2.2.2 h0; rwa [fv_app' (by omega)] at this⟩
    · have := h l.length (by simp)
      rw [fv_last', fx_last'] at this
      exact ⟨this.1, this.2.1, this.2.2.1, this.2.2.2.1, fun h0 => by have := this.2.2.2.2 h0; rwa [fv_app' (by omega)] at this⟩
  · rintro ⟨h1, h2⟩ k hk
    by_cases e : k < l.length
    · have := h1 k e
      rw [fv_app' e, fx_app' e]
      exact ⟨this.1, this.2.1, this.2.2.1, this.2.2.2.1, fun h0 => by rw [fv_app' (by omega)]; exact this.2.2.2.2 h0⟩
    · have : k = l.length := by simp at hk; omega
      subst this
      rw [fv_last', fx_last']
      exact ⟨h2.1, h2.2.1, h2.2.2.1, h2.2.2.2.1, fun h0 => by rw [fv_app' (by omega)]; exact h2.2.2.2.2 h0⟩

section
variable {f : Nat → Bool} {n : Nat}
/-- The restriction of facts holds where the facts of kept variables do. -/
theorem ho_res {l : List (Int × Int)} {s : List Int} (hl : ∀ k, k < l.length → 0 ≤ fv l k ∧ fv l k < n) (hs : s.length = n) : ∀ (k : Nat), k ≤ l.length →
    (HoP (resFN (toN f n) l k) (keN f s n) ↔ ∀ i, i < k → f (fv l i).toNat = true → nth s (fv l i).toNat = fx l i)
  | 0, _ => ⟨fun _ i hi => absurd hi (by omega), fun _ i hi => absurd hi (by simp [resFN])⟩
  | k + 1, hk => by
    have ih := ho_res (s := s) hl hs k (by omega)
    have hv := hl k (by omega)
    have ht : nth (toN f n) (fv l k).toNat = if f (fv l k).toNat then (cntR f (fv l k).toNat : Int) else -1 := toN_nth (by omega)
    cases hf : f (fv l k).toNat
    · rw [hf] at ht
      rw [resFN_no (by rw [ht]; simp), ih]
      constructor
      · intro h i hi hfi
        rcases Nat.lt_succ_iff_lt_or_eq.1 hi with h1 | rfl
        · exact h i h1 hfi
        · rw [hf] at hfi; cases hfi
      · exact fun h i hi => h i (by omega)
    · rw [hf, if_pos rfl] at ht
      rw [resFN_yes (by rw [ht]; omega), hoP_app, ih, ht]
      have hc := cntR_lt (f := f) (show (fv l k).toNat < n by omega) hf
      have hk2 := keN_nth (f := f) (l := s) hf (show (fv l k).toNat < n by omega)
      have e1 : ((cntR f (fv l k).toNat : Nat) : Int).toNat = cntR f (fv l k).toNat := by omega
      dsimp only
      rw [e1, hk2, keN_len]
      constructor
      · rintro ⟨h1, _, _, h2⟩ i hi hfi
        rcases Nat.lt_succ_iff_lt_or_eq.1 hi with h | rfl
        · exact h1 i h hfi
        · exact h2
      · intro h
        exact ⟨fun i hi => h i (by omega), by omega, by omega, h k (Nat.lt_succ_self _) hf⟩
theorem ho_full {l : List (Int × Int)} {s : List Int} (hl : ∀ k, k < l.length → 0 ≤ fv l k ∧ fv l k < n) (hs : s.length = n) : (HoP l s ↔ ∀ i, i < l.length → nth s (fv l i).toNat = fx l i) :=
  ⟨fun h i hi => (h i hi).2.2, fun h i hi => ⟨(hl i hi).1, by rw [hs]; exact (hl i hi).2, h i hi⟩⟩
theorem ho_down {l : List (Int × Int)} {s : List Int} (hl : ∀ k, k < l.length → 0 ≤ fv l k ∧ fv l k < n) (hs : s.length = n) (h : hoB l s = true) : hoB (resF (toN f n) l) (keN f s n) = true := by
  unfold hoB at *
  simp only [decide_eq_true_eq] at *
  exact (ho_res hl hs l.length (Nat.le_refl _)).2 fun i hi _ => (ho_full hl hs).1 h i hi
theorem ho_same {l : List (Int × Int)} {s : List Int} (hl : ∀ k, k < l.length → 0 ≤ fv l k ∧ fv l k < n) (hs : s.length = n) (ha : ∀ i, i < l.length → f (fv l i).toNat = true) : hoB (resF (toN f n) l) (keN f s n) = hoB l s := by
  unfold hoB
  rw [decide_eq_decide]
  exact (ho_res hl hs l.length (Nat.le_refl _)).trans ((ho_full hl hs).trans ⟨fun h i hi _ => h i hi, fun h i hi => h i hi (ha i hi)⟩).symm
/-- Restricted facts are in order and range. -/
theorem fa_res {vars : List Int} {l : List (Int × Int)} (hn : vars.length = n) (h : FaP vars l) : ∀ (k : Nat), k ≤ l.length →
    FaP (keN f vars n) (resFN (toN f n) l k) ∧ ∀ j, j < (resFN (toN f n) l k).length → ∀ i, k ≤ i → i < l.length → f (fv l i).toNat = true → fv (resFN (toN f n) l k) j < (cntR f (fv l i).toNat : Int)
  | 0, _ => ⟨fun i hi => absurd hi (by simp [resFN]), fun j hj => absurd hj (by simp [resFN])⟩
  | k + 1, hk => by
    obtain ⟨h1, h2⟩ := fa_res hn h k (by omega)
    have hv := h k (by omega)
    have ht : nth (toN f n) (fv l k).toNat = if f (fv l k).toNat then (cntR f (fv l k).toNat : Int) else -1 := toN_nth (by omega)
    cases hf : f (fv l k).toNat
    · rw [hf] at ht
      rw [resFN_no (by rw [ht]; simp)]
      exact ⟨h1, fun j hj i hi => h2 j hj i (by omega)⟩
    · rw [hf, if_pos rfl] at ht
      rw [resFN_yes (by rw [ht]; omega), ht]
      have hc := cntR_lt (f := f) (show (fv l k).toNat < n by omega) hf
      have hk2 := keN_nth (f := f) (l := vars) hf (show (fv l k).toNat < n by omega)
      have e1 : ((cntR f (fv l k).toNat : Nat) : Int).toNat = cntR f (fv l k).toNat := by omega
      refine ⟨faP_app.2 ⟨h1, by dsimp only; omega, by dsimp only; rw [keN_len]; omega, hv.2.2.1, by dsimp only; rw [e1, hk2]; exact hv.2.2.2.1, fun h0 => ?_⟩, fun j hj i hi hil hfi => ?_⟩
      · exact h2 _ (by omega) k (Nat.le_refl _) (by omega) hf
      · have hasc : ∀ a, a ≤ l.length → k < a → ∀ b, b < a → k < b → fv l k < fv l b := fun a => by
          induction a with
          | zero => intro _ h; omega
          | succ a ih =>
            intro ha hka b hb hkb
            by_cases e : b = a
            · subst e
              have h3 := (h b (by omega)).2.2.2.2 (by omega)
              by_cases e2 : b = k + 1
              · subst e2; simpa using h3
              · have := ih (by omega) (by omega) (b - 1) (by omega) (by omega); omega
            · exact ih (by omega) (by omega) b (by omega) hkb
        have h4 := hasc l.length (Nat.le_refl _) (by omega) i hil (by omega)
        have hvi := h i hil
        by_cases e : j < (resFN (toN f n) l k).length
        · rw [fv_app' e]; exact h2 j e i (by omega) hil hfi
        · have : j = (resFN (toN f n) l k).length := by simp at hj; omega
          subst this
          rw [fv_last']
          have := cntR_lt (f := f) (show (fv l k).toNat < (fv l i).toNat by omega) hf
          dsimp only
          omega
theorem fa_resB {vars : List Int} {l : List (Int × Int)} (hn : vars.length = n) (h : faB vars l = true) : faB (keN f vars n) (resF (toN f n) l) = true := by
  unfold faB at *
  simp only [decide_eq_true_eq] at *
  exact (fa_res hn h l.length (Nat.le_refl _)).1
/-- A restricted state is one. -/
theorem keN_all {l : List Int} {p : Nat → Int → Prop} (h : ∀ v, v < n → f v = true → p (cntR f v) (nth l v)) : ∀ i, i < (keN f l n).length → p i (nth (keN f l n) i) := by
  induction n with
  | zero => intro i hi; exact absurd hi (by simp [keN])
  | succ n ih =>
    intro i hi
    have ih' := ih fun v hv => h v (by omega)
    cases hn : f n
    · rw [keN_no hn] at hi ⊢; exact ih' i hi
    · rw [keN_yes hn] at hi ⊢
      by_cases e : i < (keN f l n).length
      · rw [nth_app e]; exact ih' i e
      · have : i = (keN f l n).length := by simp at hi; omega
        subst this
        rw [nth_end, keN_len]; exact h n (Nat.lt_succ_self _) hn
theorem st_res {vars s : List Int} (hn : vars.length = n) (h : stB vars s = true) : stB (keN f vars n) (keN f s n) = true := by
  unfold stB at *
  simp only [decide_eq_true_eq] at *
  refine ⟨by rw [keN_len, keN_len], keN_all (p := fun i x => 0 ≤ x ∧ x < nth (keN f vars n) i) fun v hv hf => ?_⟩
  rw [keN_nth hf hv]
  exact h.2 v (by rw [h.1, hn]; exact hv)
end

section
variable {t : Tsk}
theorem opr_res {tl : List Int} {l : List Opr} {k : Nat} (h : k < l.length) : opr (resON tl l l.length) k = resO tl (opr l k) := by
  unfold resON
  show (List.map _ _).getD k Opr.none = _
  simp [List.getD, h]
theorem mem_resEN {tl : List Int} {es : List Eff} {m k : Nat} (h : k < (resEN tl es m).length) : ∃ i, i < m ∧ 0 ≤ nth tl (eff es i).var.toNat ∧ eff (resEN tl es m) k = resE1 tl (eff es i) := by
  have hm := eff_mem h
  have h2 : ∀ x ∈ resEN tl es m, ∃ i, i < m ∧ 0 ≤ nth tl (eff es i).var.toNat ∧ x = resE1 tl (eff es i) := by
    intro x hx
    unfold resEN at hx
    simp only [List.mem_filterMap, List.mem_range] at hx
    obtain ⟨i, hi, h3⟩ := hx
    split at h3
    · exact ⟨i, hi, by assumption, by simpa using h3.symm⟩
    · cases h3
  exact h2 _ hm
theorem rel_len (hr : Right t) : (resT t).vars.length ≤ t.vars.length ∧ (resT t).ops.length = t.ops.length :=
  ⟨by show (keN _ _ _).length ≤ _; rw [keN_len]; exact cntR_le _ _, by show (resON _ _ _).length = _; exact resON_len _ _ _⟩
theorem to_rel {v : Nat} (hv : v < t.vars.length) : nth (resTo t) v = if relB t v then (cntR (relB t) v : Int) else -1 := toN_nth hv
theorem fa_one_res (hr : Right t) {x y : Int} (h : faB t.vars [(x, y)] = true) (hx : 0 ≤ nth (resTo t) x.toNat) : faB (resT t).vars [(nth (resTo t) x.toNat, y)] = true := by
  have h1 := fa_at h (k := 0) (by simp)
  have e1 : fv [(x, y)] 0 = x := rfl
  have e2 : fx [(x, y)] 0 = y := rfl
  rw [e1, e2] at h1
  have ht := to_rel (t := t) (v := x.toNat) (by omega)
  cases hf : relB t x.toNat
  · rw [hf] at ht; rw [ht] at hx; simp at hx
  · rw [hf, if_pos rfl] at ht
    have hc := cntR_lt (f := relB t) (show x.toNat < t.vars.length by omega) hf
    have hk := keN_nth (f := relB t) (l := t.vars) hf (show x.toNat < t.vars.length by omega)
    unfold faB
    simp only [decide_eq_true_eq]
    intro k hk0
    have : k = 0 := by simp at hk0; omega
    subst this
    show 0 ≤ nth (resTo t) x.toNat ∧ nth (resTo t) x.toNat < ((keN (relB t) t.vars t.vars.length).length : Int) ∧ 0 ≤ y ∧ y < nth (keN (relB t) t.vars t.vars.length) (nth (resTo t) x.toNat).toNat ∧ _
    rw [ht, keN_len, show ((cntR (relB t) x.toNat : Nat) : Int).toNat = cntR (relB t) x.toNat by omega, hk]
    exact ⟨by omega, by omega, h1.2.2.1, h1.2.2.2, fun h => absurd h (by omega)⟩
/-- The restricted task is right. -/
theorem good_res (h : chkC t = 0) : chkC (resT t) = 0 := by
  have hr := right_of h
  rw [← goT_chk] at h ⊢
  unfold goT at h
  simp only [Bool.and_eq_true, Bool.not_eq_true', decide_eq_false_iff_not, anyB_false, Bool.or_eq_false_iff, Bool.not_eq_false'] at h
  obtain ⟨⟨h1, h2⟩, h3, ⟨h4, h5⟩, h6⟩ := h
  have hl := rel_len hr
  unfold goT
  simp only [Bool.and_eq_true, Bool.not_eq_true', decide_eq_false_iff_not, anyB_false, Bool.or_eq_false_iff, Bool.not_eq_false']
  refine ⟨⟨by omega, by omega⟩, ?_, ⟨st_res rfl h4, fa_resB rfl h5⟩, fun k hk => ?_⟩
  · exact keN_all (p := fun i x => ¬ x < 1 ∧ ¬ 64 < x) fun v hv _ => h3 v hv
  · have hk' : k < t.ops.length := by omega
    have ho := h6 k hk'
    have e : opr (resT t).ops k = resO (resTo t) (opr t.ops k) := opr_res hk'
    rw [e]
    unfold goO at ho ⊢
    simp only [Bool.and_eq_true, Bool.not_eq_true', decide_eq_false_iff_not, anyB_false] at ho ⊢
    obtain ⟨⟨⟨⟨a1, a2⟩, a3⟩, a4⟩, a5, a6, a7⟩ := ho
    have hel := resEN_len (resTo t) (opr t.ops k).effs (opr t.ops k).effs.length
    refine ⟨⟨⟨⟨a1, a2⟩, ?_⟩, a4⟩, fa_resB rfl a5, a6, fun j hj => ?_⟩
    · show ¬ (64 : Int) < ((resEN (resTo t) (opr t.ops k).effs (opr t.ops k).effs.length).length : Int); omega
    · obtain ⟨i, hi, h0, e2⟩ := mem_resEN (tl := resTo t) (es := (opr t.ops k).effs) (m := (opr t.ops k).effs.length) hj
      have hm := a7 i hi
      show malE (resT t).vars (eff (resEN (resTo t) (opr t.ops k).effs (opr t.ops k).effs.length) j) = false
      rw [e2]
      unfold malE at hm ⊢
      simp only [Bool.or_eq_false_iff, Bool.not_eq_false'] at hm ⊢
      exact ⟨fa_resB rfl hm.1, fa_one_res hr hm.2 h0⟩
/-- Variables that an effect on a relevant one needs are relevant. -/
theorem dep_rel (hr : Right t) {k j u : Nat} (hk : k < t.ops.length) (hj : j < (opr t.ops k).effs.length) (hu : u < t.vars.length) (hv : relB t (eff (opr t.ops k).effs j).var.toNat = true)
    (h : onB (opr t.ops k).pre u = true ∨ onB (eff (opr t.ops k).effs j).whn u = true) : relB t u = true := by
  have he := hr.eff k hk j hj
  obtain ⟨v, hv2⟩ : ∃ v : Nat, (eff (opr t.ops k).effs j).var = (v : Int) := ⟨(eff (opr t.ops k).effs j).var.toNat, by omega⟩
  rw [hv2] at hv he
  have e1 : ((v : Int)).toNat = v := by omega
  rw [e1] at hv
  by_cases e : u = v
  · rw [e]; exact hv
  · refine relB_iff.2 (Rel.step (relB_iff.1 hv) hu (by omega) ?_)
    unfold arB
    simp only [Bool.and_eq_true, decide_eq_true_eq]
    refine ⟨e, ?_⟩
    unfold dpT
    refine anyB_true.2 ⟨k, hk, ?_⟩
    unfold dpO
    refine anyB_true.2 ⟨j, hj, ?_⟩
    unfold dpE
    rw [hv2]
    rcases h with h | h <;> simp [h]
theorem on_fv {l : List (Int × Int)} {i : Nat} (hi : i < l.length) (h0 : 0 ≤ fv l i) : onB l ((fv l i).toNat : Int) = true := anyB_true.2 ⟨i, hi, by simp; omega⟩
theorem fa_rng {vars : List Int} {l : List (Int × Int)} (h : faB vars l = true) : ∀ k, k < l.length → 0 ≤ fv l k ∧ fv l k < vars.length := fun k hk => by have := fa_at h hk; exact ⟨this.1, this.2.1⟩
/-- A state's restriction. -/
noncomputable def prj (t : Tsk) (s : List Int) : List Int := keN (relB t) s t.vars.length
theorem prj_init (t : Tsk) : (resT t).init = prj t t.init := rfl
theorem app_down (hr : Right t) {s : List Int} (hs : s.length = t.vars.length) {k : Nat} (hk : k < t.ops.length) (h : hoB (opr t.ops k).pre s = true) : hoB (opr (resT t).ops k).pre (prj t s) = true := by
  rw [show opr (resT t).ops k = resO (resTo t) (opr t.ops k) from opr_res hk]
  exact ho_down (fa_rng (hr.pre k hk)) hs h
theorem app_up (hr : Right t) {s : List Int} (hs : s.length = t.vars.length) {k : Nat} (hk : k < t.ops.length) (he : 0 < (opr (resT t).ops k).effs.length) : hoB (opr (resT t).ops k).pre (prj t s) = hoB (opr t.ops k).pre s := by
  rw [show opr (resT t).ops k = resO (resTo t) (opr t.ops k) from opr_res hk] at he ⊢
  obtain ⟨i, hi, h0, _⟩ := mem_resEN (tl := resTo t) (es := (opr t.ops k).effs) (m := (opr t.ops k).effs.length) (k := 0) he
  have hev := hr.eff k hk i hi
  have hrel : relB t (eff (opr t.ops k).effs i).var.toNat = true := by
    have ht := to_rel (t := t) (v := (eff (opr t.ops k).effs i).var.toNat) (by omega)
    cases hf : relB t (eff (opr t.ops k).effs i).var.toNat
    · rw [hf] at ht; rw [ht] at h0; simp at h0
    · rfl
  refine ho_same (fa_rng (hr.pre k hk)) hs fun a ha => ?_
  have hb := fa_rng (hr.pre k hk) a ha
  exact dep_rel hr hk hi (by omega) hrel (.inl (on_fv ha hb.1))
theorem apE_app {s : List Int} {l : List Eff} {e : Eff} : apE s (l ++ [e]) (l ++ [e]).length = if hoB e.whn s then (apE s l l.length).set e.var.toNat e.val else apE s l l.length := by
  have h : ∀ j, j ≤ l.length → apE s (l ++ [e]) j = apE s l j := fun j => by
    induction j with
    | zero => intro _; rfl
    | succ j ih =>
      intro hj
      have e1 : eff (l ++ [e]) j = eff l j := by unfold eff; simp [List.getD, List.getElem?_append_left (show j < l.length by omega)]
      show (if hoB (eff (l ++ [e]) j).whn s then (apE s (l ++ [e]) j).set (eff (l ++ [e]) j).var.toNat (eff (l ++ [e]) j).val else apE s (l ++ [e]) j) = (if hoB (eff l j).whn s then (apE s l j).set (eff l j).var.toNat (eff l j).val else apE s l j)
      rw [e1, ih (by omega)]
  have e2 : eff (l ++ [e]) l.length = e := by unfold eff; simp [List.getD]
  rw [show (l ++ [e]).length = l.length + 1 by simp]
  show (if hoB (eff (l ++ [e]) l.length).whn s then (apE s (l ++ [e]) l.length).set (eff (l ++ [e]) l.length).var.toNat (eff (l ++ [e]) l.length).val else apE s (l ++ [e]) l.length) = _
  rw [e2, h l.length (Nat.le_refl _)]
theorem apE_res (hr : Right t) {s : List Int} (hs : s.length = t.vars.length) {k : Nat} (hk : k < t.ops.length) : ∀ (j : Nat), j ≤ (opr t.ops k).effs.length →
    apE (prj t s) (resEN (resTo t) (opr t.ops k).effs j) (resEN (resTo t) (opr t.ops k).effs j).length = prj t (apE s (opr t.ops k).effs j)
  | 0, _ => rfl
  | j + 1, hj => by
    have ih := apE_res hr hs hk j (by omega)
    have hev := hr.eff k hk j (by omega)
    have ht := to_rel (t := t) (v := (eff (opr t.ops k).effs j).var.toNat) (by omega)
    have hst : apE s (opr t.ops k).effs (j + 1) = if hoB (eff (opr t.ops k).effs j).whn s then (apE s (opr t.ops k).effs j).set (eff (opr t.ops k).effs j).var.toNat (eff (opr t.ops k).effs j).val else apE s (opr t.ops k).effs j := rfl
    have hset : prj t ((apE s (opr t.ops k).effs j).set (eff (opr t.ops k).effs j).var.toNat (eff (opr t.ops k).effs j).val) = if (eff (opr t.ops k).effs j).var.toNat < t.vars.length ∧ relB t (eff (opr t.ops k).effs j).var.toNat = true then (prj t (apE s (opr t.ops k).effs j)).set (cntR (relB t) (eff (opr t.ops k).effs j).var.toNat) (eff (opr t.ops k).effs j).val else prj t (apE s (opr t.ops k).effs j) :=
      keN_set (by rw [apE_len, hs]; omega)
    cases hf : relB t (eff (opr t.ops k).effs j).var.toNat
    · rw [hf] at ht
      rw [resEN_no (by rw [ht]; simp), ih, hst]
      split
      · rw [hset, if_neg (fun h => by rw [hf] at h; cases h.2)]
      · rfl
    · rw [hf, if_pos rfl] at ht
      have hw : hoB (resF (resTo t) (eff (opr t.ops k).effs j).whn) (prj t s) = hoB (eff (opr t.ops k).effs j).whn s :=
        ho_same (fa_rng (hr.whn k hk j (by omega))) hs fun a ha => by
          have hb := fa_rng (hr.whn k hk j (by omega)) a ha
          exact dep_rel hr hk (by omega) (by omega) hf (.inr (on_fv ha hb.1))
      rw [resEN_yes (by rw [ht]; omega), apE_app, ih, hst]
      show (if hoB (resF (resTo t) (eff (opr t.ops k).effs j).whn) (prj t s) = true then (prj t (apE s (opr t.ops k).effs j)).set (nth (resTo t) (eff (opr t.ops k).effs j).var.toNat).toNat (eff (opr t.ops k).effs j).val else _) = _
      rw [hw, ht, show ((cntR (relB t) (eff (opr t.ops k).effs j).var.toNat : Nat) : Int).toNat = cntR (relB t) (eff (opr t.ops k).effs j).var.toNat by omega]
      split
      · rw [hset, if_pos ⟨by omega, hf⟩]
      · rfl
/-- The successor's restriction is the restriction's successor. -/
theorem nxt_res (hr : Right t) {s : List Int} (hs : s.length = t.vars.length) {k : Nat} (hk : k < t.ops.length) : nxt (resT t) (prj t s) k = prj t (nxt t s k) := by
  unfold nxt
  rw [show opr (resT t).ops k = resO (resTo t) (opr t.ops k) from opr_res hk]
  exact apE_res hr hs hk _ (Nat.le_refl _)
/-- An operator without effects there leaves the restriction. -/
theorem prj_nth {s : List Int} {v : Nat} (hv : v < t.vars.length) (h : relB t v = true) : nth (prj t s) (cntR (relB t) v) = nth s v ∧ cntR (relB t) v < (prj t s).length :=
  ⟨keN_nth h hv, by unfold prj; rw [keN_len]; exact cntR_lt hv h⟩
theorem prj_len (t : Tsk) (s : List Int) : (prj t s).length = (resT t).vars.length := by show (keN _ _ _).length = (keN _ _ _).length; rw [keN_len, keN_len]
theorem goal_same (hr : Right t) {s : List Int} (hs : s.length = t.vars.length) : hoB (resT t).goal (prj t s) = hoB t.goal s :=
  ho_same (fa_rng hr.goal) hs fun a ha => by
    have hb := fa_rng hr.goal a ha
    exact relB_iff.2 (Rel.goal ha (by omega))
end

end Go.Proofs.Ytenmeiplglbafaa
