/- Landmarks, plain: the facts reached without one; landmarks; achievers. No program in sight. -/
import Derived.Test.YtenmeiplglbafaaCauQ
import Derived.Test.YtenmeiplglbafaaGoodP
namespace Go.Proofs.Ytenmeiplglbafaa
set_option linter.unusedSimpArgs false
set_option linter.unusedVariables false
open Go.RowKit
set_option linter.unusedVariables false

/-- All facts of a list are marked. -/
def hsM (f : List (Int × Int)) (M : Nat → Nat → Bool) : Bool := !anyB f.length fun i => !M (fv f i).toNat (fx f i).toNat
theorem hsM_iff {f : List (Int × Int)} {M : Nat → Nat → Bool} : hsM f M = true ↔ ∀ i, i < f.length → M (fv f i).toNat (fx f i).toNat = true := by
  unfold hsM
  rw [Bool.not_eq_true', anyB_false]
  exact ⟨fun h i hi => by simpa using h i hi, fun h i hi => by simpa using h i hi⟩
theorem hsM_cong {f : List (Int × Int)} {M M' : Nat → Nat → Bool} (h : ∀ i, i < f.length → M (fv f i).toNat (fx f i).toNat = M' (fv f i).toNat (fx f i).toNat) : hsM f M = hsM f M' := by
  rw [Bool.eq_iff_iff, hsM_iff, hsM_iff]
  exact ⟨fun g i hi => by rw [← h i hi]; exact g i hi, fun g i hi => by rw [h i hi]; exact g i hi⟩
theorem fv_left {a b : List (Int × Int)} {i : Nat} (h : i < a.length) : fv (a ++ b) i = fv a i := by unfold fv; simp [List.getD, List.getElem?_append_left h]
theorem fx_left {a b : List (Int × Int)} {i : Nat} (h : i < a.length) : fx (a ++ b) i = fx a i := by unfold fx; simp [List.getD, List.getElem?_append_left h]
theorem fv_right {a b : List (Int × Int)} {i : Nat} : fv (a ++ b) (a.length + i) = fv b i := by unfold fv; simp [List.getD, List.getElem?_append_right]
theorem fx_right {a b : List (Int × Int)} {i : Nat} : fx (a ++ b) (a.length + i) = fx b i := by unfold fx; simp [List.getD, List.getElem?_append_right]
theorem hsM_app {a b : List (Int × Int)} {M : Nat → Nat → Bool} : hsM (a ++ b) M = (hsM a M && hsM b M) := by
  rw [Bool.eq_iff_iff, Bool.and_eq_true, hsM_iff, hsM_iff, hsM_iff]
  constructor
  · intro h
    refine ⟨fun i hi => ?_, fun i hi => ?_⟩
    · have := h i (by rw [List.length_append]; omega)
      rwa [fv_left hi, fx_left hi] at this
    · have := h (a.length + i) (by rw [List.length_append]; omega)
      rwa [fv_right, fx_right] at this
  · rintro ⟨h1, h2⟩ i hi
    by_cases e : i < a.length
    · rw [fv_left e, fx_left e]; exact h1 i e
    · obtain ⟨j, rfl⟩ : ∃ j, i = a.length + j := ⟨i - a.length, by omega⟩
      rw [fv_right, fx_right]; exact h2 j (by rw [List.length_append] at hi; omega)
/-- A mark more. -/
def put2 (M : Nat → Nat → Bool) (v u : Nat) (j c : Nat) : Bool := M j c || (j == v && c == u)
theorem put2_self (M : Nat → Nat → Bool) (v u : Nat) : put2 M v u v u = true := by unfold put2; simp
theorem put2_old {M : Nat → Nat → Bool} {v u j c : Nat} (h : M j c = true) : put2 M v u j c = true := by unfold put2; rw [h]; rfl
def cnt2 (M : Nat → Nat → Bool) (L : Nat → Nat) : Nat → Nat
  | 0 => 0
  | n + 1 => cnt2 M L n + cntF (M n) (L n)
theorem cnt2_cong {M M' : Nat → Nat → Bool} {L : Nat → Nat} : ∀ {n : Nat}, (∀ j, j < n → ∀ c, c < L j → M j c = M' j c) → cnt2 M L n = cnt2 M' L n
  | 0, _ => rfl
  | n + 1, h => by
    show cnt2 M L n + cntF (M n) (L n) = cnt2 M' L n + cntF (M' n) (L n)
    rw [cnt2_cong (n := n) (fun j hj => h j (by omega)), cntF_same fun c hc => h n (by omega) c hc]
theorem cnt2_put {M : Nat → Nat → Bool} {L : Nat → Nat} {v u : Nat} (h : M v u = false) (hu : u < L v) : ∀ {n : Nat}, v < n → cnt2 (put2 M v u) L n + 1 = cnt2 M L n
  | 0, hv => absurd hv (by omega)
  | n + 1, hv => by
    show cnt2 _ L n + cntF (put2 M v u n) (L n) + 1 = cnt2 M L n + cntF (M n) (L n)
    by_cases e : v = n
    · subst e
      have h1 : cnt2 (put2 M v u) L v = cnt2 M L v := cnt2_cong fun j hj c hc => by
        unfold put2
        have : (j == v) = false := by simp; omega
        rw [this]; simp
      have h2 : cntF (put2 M v u v) (L v) = cntF (setF (M v) u) (L v) := cntF_same fun c hc => by
        unfold put2 setF
        by_cases e : c = u <;> simp [e]
      have := cntF_set (f := M v) h hu
      omega
    · have h1 := cnt2_put (M := M) (L := L) h hu (n := n) (by omega)
      have h2 : cntF (put2 M v u n) (L n) = cntF (M n) (L n) := cntF_same fun c hc => by
        unfold put2
        have : (n == v) = false := by simp; omega
        rw [this]; simp
      omega
theorem cnt2_le {M : Nat → Nat → Bool} {L : Nat → Nat} {m : Nat} (h : ∀ j, L j ≤ m) : ∀ n, cnt2 M L n ≤ n * m
  | 0 => Nat.zero_le _
  | n + 1 => by
    have h1 := cnt2_le (M := M) h n
    have h2 := cntF_le (M n) (L n)
    have h3 := h n
    have h4 : (n + 1) * m = n * m + m := Nat.succ_mul _ _
    show cnt2 M L n + cntF (M n) (L n) ≤ _
    omega

/-- An effect's fact. -/
def efF (t : Tsk) (k j : Nat) : Int × Int := ((eff (opr t.ops k).effs j).var, (eff (opr t.ops k).effs j).val)
/-- The facts that are reached from a state, without the effects that make the fact a. -/
inductive Rch (t : Tsk) (s : List Int) (a : Int × Int) : Nat → Nat → Prop
  | start {v : Nat} : v < t.vars.length → Rch t s a v (nth s v).toNat
  | step {k j : Nat} : k < t.ops.length → j < (opr t.ops k).effs.length → efF t k j ≠ a →
      (∀ i, i < (opr t.ops k).pre.length → Rch t s a (fv (opr t.ops k).pre i).toNat (fx (opr t.ops k).pre i).toNat) →
      (∀ i, i < (eff (opr t.ops k).effs j).whn.length → Rch t s a (fv (eff (opr t.ops k).effs j).whn i).toNat (fx (eff (opr t.ops k).effs j).whn i).toNat) →
      Rch t s a (efF t k j).1.toNat (efF t k j).2.toNat
noncomputable def rcB (t : Tsk) (s : List Int) (a : Int × Int) (v x : Nat) : Bool := @decide (Rch t s a v x) (Classical.propDecidable _)
theorem rcB_iff {t : Tsk} {s : List Int} {a : Int × Int} {v x : Nat} : rcB t s a v x = true ↔ Rch t s a v x := by unfold rcB; simp
/-- What holds while the marks spread. -/
structure RcI (t : Tsk) (s : List Int) (a : Int × Int) (M : Nat → Nat → Bool) : Prop where
  st : ∀ v, v < t.vars.length → M v (nth s v).toNat = true
  so : ∀ v x, v < t.vars.length → x < (nth t.vars v).toNat → M v x = true → Rch t s a v x
section
variable {t : Tsk} {s : List Int} {a : Int × Int} {M : Nat → Nat → Bool}
theorem rc_start : RcI t s a (fun v x => x == (nth s v).toNat) :=
  ⟨fun v hv => by simp, fun v x hv hx h => by
    have : x = (nth s v).toNat := by simpa using h
    rw [this]; exact Rch.start hv⟩
theorem rc_facts (hr : Right t) (h : RcI t s a M) {f : List (Int × Int)} (hf : faB t.vars f = true) (hs : hsM f M = true) : ∀ i, i < f.length → Rch t s a (fv f i).toNat (fx f i).toNat := fun i hi => by
  have := fa_at hf hi
  exact h.so _ _ (by omega) (by omega) (hsM_iff.1 hs i hi)
theorem rc_mark (hr : Right t) (h : RcI t s a M) {k j : Nat} (hk : k < t.ops.length) (hj : j < (opr t.ops k).effs.length) (hne : efF t k j ≠ a) (hp : hsM (opr t.ops k).pre M = true) (hw : hsM (eff (opr t.ops k).effs j).whn M = true) :
    RcI t s a (put2 M (efF t k j).1.toNat (efF t k j).2.toNat) :=
  ⟨fun v hv => put2_old (h.st v hv), fun v x hv hx hm => by
    unfold put2 at hm
    rw [Bool.or_eq_true] at hm
    rcases hm with hm | hm
    · exact h.so v x hv hx hm
    · simp only [Bool.and_eq_true, beq_iff_eq] at hm
      obtain ⟨rfl, rfl⟩ := hm
      exact Rch.step hk hj hne (rc_facts hr h (hr.pre k hk) hp) (rc_facts hr h (hr.whn k hk j hj) hw)⟩
def ClosM (t : Tsk) (a : Int × Int) (M : Nat → Nat → Bool) : Prop := ∀ k, k < t.ops.length → ∀ j, j < (opr t.ops k).effs.length → efF t k j ≠ a → hsM (opr t.ops k).pre M = true → hsM (eff (opr t.ops k).effs j).whn M = true → M (efF t k j).1.toNat (efF t k j).2.toNat = true
theorem rc_all (hst : ∀ v, v < t.vars.length → M v (nth s v).toNat = true) (hc : ClosM t a M) {v x : Nat} (h : Rch t s a v x) : M v x = true := by
  induction h with
  | start hv => exact hst _ hv
  | step hk hj hne _ _ ih1 ih2 => exact hc _ hk _ hj hne (hsM_iff.2 ih1) (hsM_iff.2 ih2)
theorem rc_end (h : RcI t s a M) (hc : ClosM t a M) : ∀ v, v < t.vars.length → ∀ x, x < (nth t.vars v).toNat → M v x = rcB t s a v x := fun v hv x hx => by
  rw [Bool.eq_iff_iff, rcB_iff]
  exact ⟨h.so v x hv hx, fun hr => rc_all h.st hc hr⟩
theorem hs_end (h : ∀ v, v < t.vars.length → ∀ x, x < (nth t.vars v).toNat → M v x = rcB t s a v x) {f : List (Int × Int)} (hf : faB t.vars f = true) : hsM f M = hsM f (rcB t s a) :=
  hsM_cong fun i hi => by have := fa_at hf hi; exact h _ (by omega) _ (by omega)
theorem rcB_st {v : Nat} (hv : v < t.vars.length) : rcB t s a v (nth s v).toNat = true := rcB_iff.2 (Rch.start hv)
theorem rcB_clos : ClosM t a (rcB t s a) := fun k hk j hj hne hp hw => rcB_iff.2 (Rch.step hk hj hne (fun i hi => rcB_iff.1 (hsM_iff.1 hp i hi)) (fun i hi => rcB_iff.1 (hsM_iff.1 hw i hi)))
theorem rch_mono {b : Int × Int} (h : ∀ k, k < t.ops.length → ∀ j, j < (opr t.ops k).effs.length → efF t k j = b → efF t k j = a) {v x : Nat} (hx : Rch t s a v x) : Rch t s b v x := by
  induction hx with
  | start hv => exact Rch.start hv
  | step hk hj hne _ _ ih1 ih2 => exact Rch.step hk hj (fun e => hne (h _ hk _ hj e)) ih1 ih2
/-- No effect makes a fact of a variable below zero. -/
theorem rcB_none (hr : Right t) {b : Int × Int} (ha : a.1 < 0) (hb : b.1 < 0) : rcB t s a = rcB t s b := by
  funext v x
  rw [Bool.eq_iff_iff, rcB_iff, rcB_iff]
  constructor
  · exact rch_mono fun k hk j hj e => by
      have := (hr.eff k hk j hj).1
      exfalso; rw [← e] at hb; exact absurd hb (by show ¬ (eff (opr t.ops k).effs j).var < 0; omega)
  · exact rch_mono fun k hk j hj e => by
      have := (hr.eff k hk j hj).1
      exfalso; rw [← e] at ha; exact absurd ha (by show ¬ (eff (opr t.ops k).effs j).var < 0; omega)
end

/-- All facts of a task. -/
def alR (v : Nat) (k : Nat) : List (Int × Int) := (List.range k).map fun (x : Nat) => ((v : Int), (x : Int))
theorem alR_succ (v k : Nat) : alR v (k + 1) = alR v k ++ [((v : Int), (k : Int))] := by unfold alR; rw [List.range_succ, List.map_append]; rfl
theorem alR_len (v k : Nat) : (alR v k).length = k := by unfold alR; simp
def alN (vars : List Int) (k : Nat) : List (Int × Int) := (List.range k).flatMap fun v => alR v (nth vars v).toNat
theorem alN_succ (vars : List Int) (k : Nat) : alN vars (k + 1) = alN vars k ++ alR k (nth vars k).toNat := by unfold alN; rw [List.range_succ, List.flatMap_append]; simp
def alF (vars : List Int) : List (Int × Int) := alN vars vars.length
theorem alN_len {vars : List Int} (h : ∀ k, k < vars.length → 1 ≤ nth vars k ∧ nth vars k ≤ 64) : ∀ k, k ≤ vars.length → (alN vars k).length ≤ k * 64
  | 0, _ => Nat.zero_le _
  | k + 1, hk => by
    have h1 := alN_len h k (by omega)
    have h2 := h k (by omega)
    rw [alN_succ, List.length_append, alR_len]
    omega
theorem mem_alF {vars : List Int} {f : Int × Int} : f ∈ alF vars ↔ 0 ≤ f.1 ∧ f.1 < vars.length ∧ 0 ≤ f.2 ∧ f.2 < nth vars f.1.toNat := by
  obtain ⟨v, x⟩ := f
  unfold alF alN alR
  simp only [List.mem_flatMap, List.mem_range, List.mem_map, Prod.mk.injEq]
  constructor
  · rintro ⟨a, ha, b, hb, rfl, rfl⟩
    have : ((a : Int)).toNat = a := by omega
    rw [this]
    omega
  · rintro ⟨h1, h2, h3, h4⟩
    exact ⟨v.toNat, by omega, x.toNat, by omega, by omega, by omega⟩
theorem faB_one {vars : List Int} {x y : Int} : faB vars [(x, y)] = true ↔ (x, y) ∈ alF vars := by
  rw [mem_alF]
  unfold faB
  simp only [decide_eq_true_eq]
  constructor
  · intro h
    have := h 0 (by simp)
    exact ⟨this.1, this.2.1, this.2.2.1, this.2.2.2.1⟩
  · intro h k hk
    have : k = 0 := by simp at hk; omega
    subst this
    exact ⟨h.1, h.2.1, h.2.2.1, h.2.2.2, fun h0 => absurd h0 (by omega)⟩

/-- A landmark; the landmarks. -/
noncomputable def lmB (t : Tsk) (s : List Int) (f : Int × Int) : Bool := decide (nth s f.1.toNat ≠ f.2) && !hsM t.goal (rcB t s f)
noncomputable def lmks (t : Tsk) (s : List Int) : List (Int × Int) := (alF t.vars).filter (lmB t s)
def noF : Int × Int := (-1, -1)
/-- Facts: the error, the landmarks. -/
noncomputable def lmC (t : Tsk) (s : List Int) : Int := if stB t.vars s then (if hsM t.goal (rcB t s noF) then 0 else 3) else 2
noncomputable def lmL (t : Tsk) (s : List Int) : List (Int × Int) := if lmC t s = 0 then lmks t s else []
/-- Does operator k achieve the fact? -/
noncomputable def acE (t : Tsk) (s : List Int) (f : Int × Int) (k j : Nat) : Bool := decide (efF t k j = f) && (hsM (opr t.ops k).pre (rcB t s f) && hsM (eff (opr t.ops k).effs j).whn (rcB t s f))
noncomputable def acB (t : Tsk) (s : List Int) (f : Int × Int) (k : Nat) : Bool := anyB (opr t.ops k).effs.length (acE t s f k)
noncomputable def achN (t : Tsk) (s : List Int) (f : Int × Int) (k : Nat) : List Int := (List.range k).filterMap fun i => if acB t s f i then some (i : Int) else none
noncomputable def ach (t : Tsk) (s : List Int) (f : Int × Int) : List Int := achN t s f t.ops.length
noncomputable def befB (t : Tsk) (s : List Int) (a b : Int × Int) : Bool := decide (a ≠ b) && (rcB t s noF b.1.toNat b.2.toNat && !rcB t s a b.1.toNat b.2.toNat)
section
variable {t : Tsk} {s : List Int} {f : Int × Int}
theorem achN_yes {k : Nat} (h : acB t s f k = true) : achN t s f (k + 1) = achN t s f k ++ [(k : Int)] := by unfold achN; rw [List.range_succ, List.filterMap_append]; simp [h]
theorem achN_no {k : Nat} (h : acB t s f k = false) : achN t s f (k + 1) = achN t s f k := by unfold achN; rw [List.range_succ, List.filterMap_append]; simp [h]
theorem achN_len (k : Nat) : (achN t s f k).length ≤ k := by
  unfold achN
  have := List.length_filterMap_le (fun i => if acB t s f i then some (i : Int) else none) (List.range k)
  simpa using this
theorem mem_ach {x : Int} : x ∈ ach t s f ↔ ∃ k : Nat, k < t.ops.length ∧ x = (k : Int) ∧ acB t s f k = true := by
  unfold ach achN
  simp only [List.mem_filterMap, List.mem_range]
  constructor
  · rintro ⟨k, hk, h⟩
    split at h
    · exact ⟨k, hk, by simpa using h.symm, by assumption⟩
    · cases h
  · rintro ⟨k, hk, rfl, h⟩
    exact ⟨k, hk, by rw [if_pos h]⟩
/-- A landmark is achieved. -/
theorem ach_ne (hr : Right t) (hg : hsM t.goal (rcB t s noF) = true) (hf : hsM t.goal (rcB t s f) = false) : ach t s f ≠ [] := fun h0 => by
  have hc : ClosM t noF (rcB t s f) := fun k hk j hj hne hp hw => by
    by_cases e : efF t k j = f
    · exfalso
      have : (k : Int) ∈ ach t s f := mem_ach.2 ⟨k, hk, rfl, by
        unfold acB
        refine anyB_true.2 ⟨j, hj, ?_⟩
        unfold acE
        rw [hp, hw]; simp [e]⟩
      rw [h0] at this; cases this
    · exact rcB_clos k hk j hj e hp hw
  have h2 : hsM t.goal (rcB t s f) = true := hsM_iff.2 fun i hi => rc_all (t := t) (s := s) (a := noF) (fun v hv => rcB_st hv) hc (rcB_iff.1 (hsM_iff.1 hg i hi))
  rw [h2] at hf; cases hf
theorem mem_lmks : f ∈ lmks t s ↔ f ∈ alF t.vars ∧ nth s f.1.toNat ≠ f.2 ∧ hsM t.goal (rcB t s f) = false := by
  unfold lmks lmB
  simp [List.mem_filter]
end

end Go.Proofs.Ytenmeiplglbafaa
