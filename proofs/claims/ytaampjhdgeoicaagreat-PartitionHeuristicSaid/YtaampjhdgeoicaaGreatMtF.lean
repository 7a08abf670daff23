/- Texts laid together: LmP, LmQ, LmA, LmB. -/
import Derived.Test.YtaampjhdgeoicaaGreatMfA
import Derived.Test.YtaampjhdgeoicaaGreatMtC
import Derived.Test.YtaampjhdgeoicaaGreatMtD
import Derived.Test.YtaampjhdgeoicaaGreatMfC
import Derived.Test.YtaampjhdgeoicaaGreatMtA
import Derived.Test.YtaampjhdgeoicaaGreatMtB
import Derived.Lib.BufferMore
namespace Go.Proofs.YtaampjhdgeoicaaGreat
set_option linter.unusedSimpArgs false
set_option linter.unusedVariables false
section
open Go.RowKit
set_option linter.unusedVariables false

/-- All facts of a list are marked. -/
def hsM (f : List (Int × Int)) (M : Nat → Nat → Bool) : Bool := !anyB f.length fun i => !M (fv f i).toNat (fx f i).toNat
theorem hsM_iff {f : List (Int × Int)} {M : Nat → Nat → Bool} : hsM f M = true ↔ ∀ i, i < f.length → M (fv f i).toNat (fx f i).toNat = true := by
 unfold hsM
 rw [Bool.not_eq_true', anyB_false]
 exact ⟨fun h i hi => by simpa using h i hi, fun h i hi => by simpa using h i hi⟩
theorem fv_left {a b : List (Int × Int)} {i : Nat} (h : i < a.length) : fv (a ++ b) i = fv a i := by unfold fv; simp [List.getD, List.getElem?_append_left h]
theorem fx_left {a b : List (Int × Int)} {i : Nat} (h : i < a.length) : fx (a ++ b) i = fx a i := by unfold fx; simp [List.getD, List.getElem?_append_left h]
theorem fv_right {a b : List (Int × Int)} {i : Nat} : fv (a ++ b) (a.length + i) = fv b i := by unfold fv; simp [List.getD, List.getElem?_append_right]
theorem fx_right {a b : List (Int × Int)} {i : Nat} : fx (a ++ b) (a.length + i) = fx b i := by unfold fx; simp [List.getD, List.getElem?_append_right]
theorem hsM_app {a b : List (Int × Int)} {M : Nat → Nat → Bool} : hsM (a ++ b) M = (hsM a M && hsM b M) := by
 rw [Bool.eq_iff_iff, Bool.and_eq_true, hsM_iff, hsM_iff, hsM_iff]
 constructor
 ·intro h
  refine ⟨fun i hi => ?_, fun i hi => ?_⟩
  ·have := h i (by rw [List.length_append]; omega)
   rwa [fv_left hi, fx_left hi] at this
  ·have := h (a.length + i) (by rw [List.length_append]; omega)
   rwa [fv_right, fx_right] at this
 ·rintro ⟨h1, h2⟩ i hi
  by_cases e : i < a.length
  ·rw [fv_left e, fx_left e]; exact h1 i e
  ·obtain ⟨j, rfl⟩ : ∃ j, i = a.length + j := ⟨i - a.length, by omega⟩
   rw [fv_right, fx_right]; exact h2 j (by rw [List.length_append] at hi; omega)
/-- A mark more. -/
def put2 (M : Nat → Nat → Bool) (v u : Nat) (j c : Nat) : Bool := M j c || (j == v && c == u)
theorem put2_old {M : Nat → Nat → Bool} {v u j c : Nat} (h : M j c = true) : put2 M v u j c = true := by unfold put2; rw [h]; rfl
def cnt2 (M : Nat → Nat → Bool) (L : Nat → Nat) : Nat → Nat
 | 0 => 0
 | n + 1 => cnt2 M L n + cntF (M n) (L n)
theorem cnt2_cong {M M' : Nat → Nat → Bool} {L : Nat → Nat} : ∀ {n : Nat}, (∀ j, j < n → ∀ c, c < L j → M j c = M' j c) → cnt2 M L n = cnt2 M' L n
 | 0, _ => rfl
 | n + 1, h => by
  show cnt2 M L n + cntF (M n) (L n) = cnt2 M' L n + cntF (M' n) (L n)
  rw [cnt2_cong (n := n) (fun j hj => h j (by omega)), cntF_same fun c hc => h n (by omega) c hc]
theorem cnt2_put {M : Nat → Nat → Bool} {L : Nat → Nat} {v u : Nat} (h : M v u = false) (hu : u < L v) : ∀ {n : Nat}, v < n → cnt2 (put2 M v u) L n + 1 = cnt2 M L n
 | 0, hv => absurd hv (by omega)
 | n + 1, hv => by
  show cnt2 _ L n + cntF (put2 M v u n) (L n) + 1 = cnt2 M L n + cntF (M n) (L n)
  by_cases e : v = n
  ·subst e
   have h1 : cnt2 (put2 M v u) L v = cnt2 M L v := cnt2_cong fun j hj c hc => by
    unfold put2
    have : (j == v) = false := by simp; omega
    rw [this]; simp
   have h2 : cntF (put2 M v u v) (L v) = cntF (setF (M v) u) (L v) := cntF_same fun c hc => by
    unfold put2 setF
    by_cases e : c = u <;> simp [e]
   have := cntF_set (f := M v) h hu
   omega
  ·have h1 := cnt2_put (M := M) (L := L) h hu (n := n) (by omega)
   have h2 : cntF (put2 M v u n) (L n) = cntF (M n) (L n) := cntF_same fun c hc => by
    unfold put2
    have : (n == v) = false := by simp; omega
    rw [this]; simp
   omega
/-- An effect's fact. -/
def efF (t : Tsk) (k j : Nat) : Int × Int := ((eff (opr t.ops k).effs j).var, (eff (opr t.ops k).effs j).val)
/-- The facts that are reached from a state, without the effects that make the fact a. -/
inductive Rch (t : Tsk) (s : List Int) (a : Int × Int) : Nat → Nat → Prop
  | start {v : Nat} : v < t.vars.length → Rch t s a v (nth s v).toNat
  | step {k j : Nat} : k < t.ops.length → j < (opr t.ops k).effs.length → efF t k j ≠ a →
      (∀ i, i < (opr t.ops k).pre.length → Rch t s a (fv (opr t.ops k).pre i).toNat (fx (opr t.ops k).pre i).toNat) →
      (∀ i, i < (eff (opr t.ops k).effs j).whn.length → Rch t s a (fv (eff (opr t.ops k).effs j).whn i).toNat (fx (eff (opr t.ops k).effs j).whn i).toNat) →
      Rch t s a (efF t k j).1.toNat (efF t k j).2.toNat
noncomputable def rcB (t : Tsk) (s : List Int) (a : Int × Int) (v x : Nat) : Bool := @decide (Rch t s a v x) (Classical.propDecidable _)
theorem rcB_iff {t : Tsk} {s : List Int} {a : Int × Int} {v x : Nat} : rcB t s a v x = true ↔ Rch t s a v x := by unfold rcB; simp
/-- What holds while the marks spread. -/
structure RcI (t : Tsk) (s : List Int) (a : Int × Int) (M : Nat → Nat → Bool) : Prop where
 st : ∀ v, v < t.vars.length → M v (nth s v).toNat = true
 so : ∀ v x, v < t.vars.length → x < (nth t.vars v).toNat → M v x = true → Rch t s a v x
section
variable {t : Tsk} {s : List Int} {a : Int × Int} {M : Nat → Nat → Bool}
theorem rc_start : RcI t s a (fun v x => x == (nth s v).toNat) :=
 ⟨fun v hv => by simp, fun v x hv hx h => by
  have : x = (nth s v).toNat := by simpa using h
  rw [this]; exact Rch.start hv⟩
theorem rc_facts (hr : Right t) (h : RcI t s a M) {f : List (Int × Int)} (hf : faB t.vars f = true) (hs : hsM f M = true) : ∀ i, i < f.length → Rch t s a (fv f i).toNat (fx f i).toNat := fun i hi => by
 have := fa_at hf hi
 exact h.so _ _ (by omega) (by omega) (hsM_iff.1 hs i hi)
theorem rc_mark (hr : Right t) (h : RcI t s a M) {k j : Nat} (hk : k < t.ops.length) (hj : j < (opr t.ops k).effs.length) (hne : efF t k j ≠ a) (hp : hsM (opr t.ops k).pre M = true) (hw : hsM (eff (opr t.ops k).effs j).whn M = true) :
  RcI t s a (put2 M (efF t k j).1.toNat (efF t k j).2.toNat) :=
 ⟨fun v hv => put2_old (h.st v hv), fun v x hv hx hm => by
  unfold put2 at hm
  rw [Bool.or_eq_true] at hm
  rcases hm with hm | hm
  ·exact h.so v x hv hx hm
  ·simp only [Bool.and_eq_true, beq_iff_eq] at hm
   obtain ⟨rfl, rfl⟩ := hm
   exact Rch.step hk hj hne (rc_facts hr h (hr.pre k hk) hp) (rc_facts hr h (hr.whn k hk j hj) hw)⟩
def ClosM (t : Tsk) (a : Int × Int) (M : Nat → Nat → Bool) : Prop := ∀ k, k < t.ops.length → ∀ j, j < (opr t.ops k).effs.length → efF t k j ≠ a → hsM (opr t.ops k).pre M = true → hsM (eff (opr t.ops k).effs j).whn M = true → M (efF t k j).1.toNat (efF t k j).2.toNat = true
theorem rc_all (hst : ∀ v, v < t.vars.length → M v (nth s v).toNat = true) (hc : ClosM t a M) {v x : Nat} (h : Rch t s a v x) : M v x = true := by
 induction h with
 | start hv => exact hst _ hv
 | step hk hj hne _ _ ih1 ih2 => exact hc _ hk _ hj hne (hsM_iff.2 ih1) (hsM_iff.2 ih2)
theorem rc_end (h : RcI t s a M) (hc : ClosM t a M) : ∀ v, v < t.vars.length → ∀ x, x < (nth t.vars v).toNat → M v x = rcB t s a v x := fun v hv x hx => by
 rw [Bool.eq_iff_iff, rcB_iff]
 exact ⟨h.so v x hv hx, fun hr => rc_all h.st hc hr⟩
theorem rcB_st {v : Nat} (hv : v < t.vars.length) : rcB t s a v (nth s v).toNat = true := rcB_iff.2 (Rch.start hv)
theorem rcB_clos : ClosM t a (rcB t s a) := fun k hk j hj hne hp hw => rcB_iff.2 (Rch.step hk hj hne (fun i hi => rcB_iff.1 (hsM_iff.1 hp i hi)) (fun i hi => rcB_iff.1 (hsM_iff.1 hw i hi)))
theorem rch_mono {b : Int × Int} (h : ∀ k, k < t.ops.length → ∀ j, j < (opr t.ops k).effs.length → efF t k j = b → efF t k j = a) {v x : Nat} (hx : Rch t s a v x) : Rch t s b v x := by
 induction hx with
 | start hv => exact Rch.start hv
 | step hk hj hne _ _ ih1 ih2 => exact Rch.step hk hj (fun e => hne (h _ hk _ hj e)) ih1 ih2
/-- No effect makes a fact of a variable below zero. -/
theorem rcB_none (hr : Right t) {b : Int × Int} (ha : a.1 < 0) (hb : b.1 < 0) : rcB t s a = rcB t s b := by
 funext v x
 rw [Bool.eq_iff_iff, rcB_iff, rcB_iff]
 constructor
 ·exact rch_mono fun k hk j hj e => by
   have := (hr.eff k hk j hj).1
   exfalso; rw [← e] at hb; exact absurd hb (by show ¬ (eff (opr t.ops k).effs j).var < 0; omega)
 ·exact rch_mono fun k hk j hj e => by
   have := (hr.eff k hk j hj).1
   exfalso; rw [← e] at ha; exact absurd ha (by show ¬ (eff (opr t.ops k).effs j).var < 0; omega)
end

/-- All facts of a task. -/
def alR (v : Nat) (k : Nat) : List (Int × Int) := (List.range k).map fun (x : Nat) => ((v : Int), (x : Int))
theorem alR_succ (v k : Nat) : alR v (k + 1) = alR v k ++ [((v : Int), (k : Int))] := by unfold alR; rw [List.range_succ, List.map_append]; rfl
theorem alR_len (v k : Nat) : (alR v k).length = k := by unfold alR; simp
def alN (vars : List Int) (k : Nat) : List (Int × Int) := (List.range k).flatMap fun v => alR v (nth vars v).toNat
theorem alN_succ (vars : List Int) (k : Nat) : alN vars (k + 1) = alN vars k ++ alR k (nth vars k).toNat := by unfold alN; rw [List.range_succ, List.flatMap_append]; simp
def alF (vars : List Int) : List (Int × Int) := alN vars vars.length
theorem alN_len {vars : List Int} (h : ∀ k, k < vars.length → 1 ≤ nth vars k ∧ nth vars k ≤ 64) : ∀ k, k ≤ vars.length → (alN vars k).length ≤ k * 64
 | 0, _ => Nat.zero_le _
 | k + 1, hk => by
  have h1 := alN_len h k (by omega)
  have h2 := h k (by omega)
  rw [alN_succ, List.length_append, alR_len]
  omega
theorem mem_alF {vars : List Int} {f : Int × Int} : f ∈ alF vars ↔ 0 ≤ f.1 ∧ f.1 < vars.length ∧ 0 ≤ f.2 ∧ f.2 < nth vars f.1.toNat := by
 obtain ⟨v, x⟩ := f
 unfold alF alN alR
 simp only [List.mem_flatMap, List.mem_range, List.mem_map, Prod.mk.injEq]
 constructor
 ·rintro ⟨a, ha, b, hb, rfl, rfl⟩
  have : ((a : Int)).toNat = a := by omega
  rw [this]
  omega
 ·rintro ⟨h1, h2, h3, h4⟩
  exact ⟨v.toNat, by omega, x.toNat, by omega, by omega, by omega⟩
theorem faB_one {vars : List Int} {x y : Int} : faB vars [(x, y)] = true ↔ (x, y) ∈ alF vars := by
 rw [mem_alF]
 unfold faB
 simp only [decide_eq_true_eq]
 constructor
 ·intro h
  have := h 0 (by simp)
  exact ⟨this.1, this.2.1, this.2.2.1, this.2.2.2.1⟩
 ·intro h k hk
  have : k = 0 := by simp at hk; omega
  subst this
  exact ⟨h.1, h.2.1, h.2.2.1, h.2.2.2, fun h0 => absurd h0 (by omega)⟩

/-- A landmark; the landmarks. -/
noncomputable def lmB (t : Tsk) (s : List Int) (f : Int × Int) : Bool := decide (nth s f.1.toNat ≠ f.2) && !hsM t.goal (rcB t s f)
noncomputable def lmks (t : Tsk) (s : List Int) : List (Int × Int) := (alF t.vars).filter (lmB t s)
def noF : Int × Int := (-1, -1)
/-- Facts: the error, the landmarks. -/
noncomputable def lmC (t : Tsk) (s : List Int) : Int := if stB t.vars s then (if hsM t.goal (rcB t s noF) then 0 else 3) else 2
noncomputable def lmL (t : Tsk) (s : List Int) : List (Int × Int) := if lmC t s = 0 then lmks t s else []
/-- Does operator k achieve the fact? -/
noncomputable def acE (t : Tsk) (s : List Int) (f : Int × Int) (k j : Nat) : Bool := decide (efF t k j = f) && (hsM (opr t.ops k).pre (rcB t s f) && hsM (eff (opr t.ops k).effs j).whn (rcB t s f))
noncomputable def acB (t : Tsk) (s : List Int) (f : Int × Int) (k : Nat) : Bool := anyB (opr t.ops k).effs.length (acE t s f k)
noncomputable def achN (t : Tsk) (s : List Int) (f : Int × Int) (k : Nat) : List Int := (List.range k).filterMap fun i => if acB t s f i then some (i : Int) else none
noncomputable def ach (t : Tsk) (s : List Int) (f : Int × Int) : List Int := achN t s f t.ops.length
section
variable {t : Tsk} {s : List Int} {f : Int × Int}
theorem achN_yes {k : Nat} (h : acB t s f k = true) : achN t s f (k + 1) = achN t s f k ++ [(k : Int)] := by unfold achN; rw [List.range_succ, List.filterMap_append]; simp [h]
theorem achN_no {k : Nat} (h : acB t s f k = false) : achN t s f (k + 1) = achN t s f k := by unfold achN; rw [List.range_succ, List.filterMap_append]; simp [h]
theorem achN_len (k : Nat) : (achN t s f k).length ≤ k := by
 unfold achN
 have := List.length_filterMap_le (fun i => if acB t s f i then some (i : Int) else none) (List.range k)
 simpa using this
theorem mem_ach {x : Int} : x ∈ ach t s f ↔ ∃ k : Nat, k < t.ops.length ∧ x = (k : Int) ∧ acB t s f k = true := by
 unfold ach achN
 simp only [List.mem_filterMap, List.mem_range]
 constructor
 ·rintro ⟨k, hk, h⟩
  split at h
  ·exact ⟨k, hk, by simpa using h.symm, by assumption⟩
  ·cases h
 ·rintro ⟨k, hk, rfl, h⟩
  exact ⟨k, hk, by rw [if_pos h]⟩
/-- A landmark is achieved. -/
theorem ach_ne (hr : Right t) (hg : hsM t.goal (rcB t s noF) = true) (hf : hsM t.goal (rcB t s f) = false) : ach t s f ≠ [] := fun h0 => by
 have hc : ClosM t noF (rcB t s f) := fun k hk j hj hne hp hw => by
  by_cases e : efF t k j = f
  ·exfalso
   have : (k : Int) ∈ ach t s f := mem_ach.2 ⟨k, hk, rfl, by
    unfold acB
    refine anyB_true.2 ⟨j, hj, ?_⟩
    unfold acE
    rw [hp, hw]; simp [e]⟩
   rw [h0] at this; cases this
  ·exact rcB_clos k hk j hj e hp hw
 have h2 : hsM t.goal (rcB t s f) = true := hsM_iff.2 fun i hi => rc_all (t := t) (s := s) (a := noF) (fun v hv => rcB_st hv) hc (rcB_iff.1 (hsM_iff.1 hg i hi))
 rw [h2] at hf; cases hf
theorem mem_lmks : f ∈ lmks t s ↔ f ∈ alF t.vars ∧ nth s f.1.toNat ≠ f.2 ∧ hsM t.goal (rcB t s f) = false := by
 unfold lmks lmB
 simp [List.mem_filter]
end
end

section
open Go Go.RowKit
set_option linter.unusedVariables false

/-- An operator with one of its effects. -/
structure Un where
 op : Nat
 needs : List (Int × Int)
 var : Int
 val : Int
def mkU (t : Tsk) (k j : Nat) : Un := ⟨k, (opr t.ops k).pre ++ (eff (opr t.ops k).effs j).whn, (eff (opr t.ops k).effs j).var, (eff (opr t.ops k).effs j).val⟩
def usO (t : Tsk) (k j : Nat) : List Un := (List.range j).map (mkU t k)
def usN (t : Tsk) (k : Nat) : List Un := (List.range k).flatMap fun i => usO t i (opr t.ops i).effs.length
def usK (t : Tsk) (k j : Nat) : List Un := usN t k ++ usO t k j
def us (t : Tsk) : List Un := usN t t.ops.length
def un (l : List Un) (k : Nat) : Un := l.getD k ⟨0, [], 0, 0⟩
def cosN (t : Tsk) (k : Nat) : List Int := (List.range k).map fun i => (opr t.ops i).cost
theorem cosN_succ (t : Tsk) (k : Nat) : cosN t (k + 1) = cosN t k ++ [(opr t.ops k).cost] := by unfold cosN; rw [List.range_succ, List.map_append]; rfl
theorem cosN_len (t : Tsk) (k : Nat) : (cosN t k).length = k := by unfold cosN; simp
theorem cosN_nth {t : Tsk} {k i : Nat} (h : i < k) : nth (cosN t k) i = (opr t.ops i).cost := by unfold cosN nth; simp [List.getD, h]
section
variable {t : Tsk}
theorem usO_succ (k j : Nat) : usO t k (j + 1) = usO t k j ++ [mkU t k j] := by unfold usO; rw [List.range_succ, List.map_append]; rfl
theorem usO_len (k j : Nat) : (usO t k j).length = j := by unfold usO; simp
theorem usK_zero (k : Nat) : usK t k 0 = usN t k := by unfold usK usO; simp
theorem usK_succ (k j : Nat) : usK t k (j + 1) = usK t k j ++ [mkU t k j] := by unfold usK; rw [usO_succ, List.append_assoc]
theorem usK_end (k : Nat) : usK t k (opr t.ops k).effs.length = usN t (k + 1) := by unfold usK usN; rw [List.range_succ, List.flatMap_append]; simp
theorem usN_len (h : ∀ k, k < t.ops.length → (opr t.ops k).effs.length ≤ 64) : ∀ k, k ≤ t.ops.length → (usN t k).length ≤ k * 64
 | 0, _ => Nat.zero_le _
 | k + 1, hk => by
  rw [← usK_end]
  unfold usK
  rw [List.length_append, usO_len]
  have h1 := usN_len h k (by omega)
  have h2 := h k (by omega)
  omega
theorem mem_us {u : Un} : u ∈ us t ↔ ∃ k, k < t.ops.length ∧ ∃ j, j < (opr t.ops k).effs.length ∧ u = mkU t k j := by
 unfold us usN usO
 simp only [List.mem_flatMap, List.mem_range, List.mem_map]
 constructor
 ·rintro ⟨k, hk, j, hj, rfl⟩; exact ⟨k, hk, j, hj, rfl⟩
 ·rintro ⟨k, hk, j, hj, rfl⟩; exact ⟨k, hk, j, hj, rfl⟩
theorem un_mem {l : List Un} {k : Nat} (h : k < l.length) : un l k ∈ l := by unfold un; simp [List.getD, List.getElem?_eq_getElem h]
theorem mem_un {l : List Un} {u : Un} (h : u ∈ l) : ∃ k, k < l.length ∧ un l k = u := by
 obtain ⟨k, hk, rfl⟩ := List.mem_iff_getElem.1 h
 exact ⟨k, hk, by unfold un; simp [List.getD, List.getElem?_eq_getElem hk]⟩
/-- Closed, by the list. -/
theorem clos_us {a : Int × Int} {M : Nat → Nat → Bool} (h : ∀ i, i < (us t).length → ((un (us t) i).var, (un (us t) i).val) ≠ a → hsM (un (us t) i).needs M = true → M (un (us t) i).var.toNat (un (us t) i).val.toNat = true) : ClosM t a M := fun k hk j hj hne hp hw => by
 obtain ⟨i, hi, e⟩ := mem_un (mem_us.2 ⟨k, hk, j, hj, rfl⟩)
 have := h i hi
 rw [e] at this
 exact this hne (by show hsM (_ ++ _) M = true; rw [hsM_app, hp, hw]; rfl)
/-- What an entry of the list is. -/
structure UnR (t : Tsk) (u : Un) : Prop where
 op : u.op < t.ops.length
 v0 : 0 ≤ u.var
 v1 : u.var < t.vars.length
 x0 : 0 ≤ u.val
 x1 : u.val < nth t.vars u.var.toNat
 rng : ∀ i, i < u.needs.length → 0 ≤ fv u.needs i ∧ fv u.needs i < t.vars.length ∧ 0 ≤ fx u.needs i ∧ fx u.needs i < nth t.vars (fv u.needs i).toNat
 len : u.needs.length ≤ 128
theorem un_right (hr : Right t) {u : Un} (h : u ∈ us t) : UnR t u := by
 obtain ⟨k, hk, j, hj, rfl⟩ := mem_us.1 h
 have he := hr.eff k hk j hj
 have key : ∀ i, i < ((opr t.ops k).pre ++ (eff (opr t.ops k).effs j).whn).length → 0 ≤ fv ((opr t.ops k).pre ++ (eff (opr t.ops k).effs j).whn) i ∧ fv ((opr t.ops k).pre ++ (eff (opr t.ops k).effs j).whn) i < t.vars.length ∧ 0 ≤ fx ((opr t.ops k).pre ++ (eff (opr t.ops k).effs j).whn) i ∧ fx ((opr t.ops k).pre ++ (eff (opr t.ops k).effs j).whn) i < nth t.vars (fv ((opr t.ops k).pre ++ (eff (opr t.ops k).effs j).whn) i).toNat := fun i hi => by
  by_cases e : i < (opr t.ops k).pre.length
  ·rw [fv_left e, fx_left e]; exact fa_at (hr.pre k hk) e
  ·obtain ⟨d, rfl⟩ : ∃ d, i = (opr t.ops k).pre.length + d := ⟨i - (opr t.ops k).pre.length, by omega⟩
   rw [fv_right, fx_right]
   exact fa_at (hr.whn k hk j hj) (by rw [List.length_append] at hi; omega)
 refine ⟨hk, he.1, he.2.1, he.2.2.1, he.2.2.2, key, ?_⟩
 ·have h1 := hr.np k hk
  have h2 := hr.nw k hk j hj
  simp only [mkU, List.length_append]; omega
theorem rc_markU (hr : Right t) {s : List Int} {a : Int × Int} {M : Nat → Nat → Bool} (h : RcI t s a M) {u : Un} (hu : u ∈ us t) (hne : (u.var, u.val) ≠ a) (hs : hsM u.needs M = true) : RcI t s a (put2 M u.var.toNat u.val.toNat) := by
 obtain ⟨k, hk, j, hj, rfl⟩ := mem_us.1 hu
 have h2 : hsM ((opr t.ops k).pre ++ (eff (opr t.ops k).effs j).whn) M = true := hs
 rw [hsM_app, Bool.and_eq_true] at h2
 exact rc_mark hr h hk hj hne h2.1 h2.2
end

/-- Facts that lie at the beginning of a block of facts, not below lo. -/
def FaB (w : World) (lo : Nat) (S : Option Addr) (l : List (Int × Int)) : Prop := l.length ≤ 1000000 ∧ (0 < l.length → ∃ b cur, S = some ⟨b, 0, none⟩ ∧ lo ≤ b ∧ w.heap[b]? = some (.cells cur 75 (0, 0)) ∧ ∀ k, k < l.length → cur[k * 2]? = some (.int .i64 (fv l k)) ∧ cur[k * 2 + 1]? = some (.int .i64 (fx l k)))
def UnIs (w : World) (lo : Nat) (xs : List Value) (l : List Un) : Prop := ∀ k, k < l.length → ∃ S c, xs[k * 4]? = some (.int .i64 (un l k).op) ∧ xs[k * 4 + 1]? = some (.slice S (un l k).needs.length c) ∧ FaB w lo S (un l k).needs ∧ xs[k * 4 + 2]? = some (.int .i64 (un l k).var) ∧ xs[k * 4 + 3]? = some (.int .i64 (un l k).val)
def LstB (w : World) (lo : Nat) (v : Value) (l : List Un) : Prop := ∃ xs, w.ownsRow lo 82 4 v l.length xs ∧ UnIs w lo xs l
def UnsAt (w : World) (B : Nat) (A : Option Addr) (l : List Un) : Prop := 0 < l.length → ∃ b, A = some ⟨b, 0, none⟩ ∧ b < B ∧ ∀ k, k < l.length → ∃ S c, w.cell? ⟨b, k * 4, none⟩ = some (.int .i64 (un l k).op) ∧ w.cell? ⟨b, k * 4 + 1, none⟩ = some (.slice S (un l k).needs.length c) ∧ FactsAt w B S (un l k).needs ∧ w.cell? ⟨b, k * 4 + 2, none⟩ = some (.int .i64 (un l k).var) ∧ w.cell? ⟨b, k * 4 + 3, none⟩ = some (.int .i64 (un l k).val)
section
variable {w w' : World} {lo : Nat} {v v' : Value} {xs : List Value}
theorem FaB.of {S : Option Addr} {l : List (Int × Int)} (h : FaB w lo S l) (hk : ∀ b cur, lo ≤ b → w.heap[b]? = some (.cells cur 75 (0, 0)) → w'.heap[b]? = w.heap[b]?) : FaB w' lo S l := ⟨h.1, fun h0 => by
 obtain ⟨b, cur, e, hl, hb, hc⟩ := h.2 h0
 exact ⟨b, cur, e, hl, (hk b cur hl hb).trans hb, hc⟩⟩
theorem FaB.up {S : Option Addr} {l : List (Int × Int)} (h : FaB w lo S l) (hb : Below w.heap.size w w') : FaB w' lo S l := h.of fun b cur _ e => hb.block b (Array.getElem?_eq_some_iff.1 e).1
theorem FaB.at_ {S : Option Addr} {l : List (Int × Int)} (h : FaB w lo S l) : FactsAt w w.heap.size S l := ⟨by have := h.1; omega, fun h0 => by
 obtain ⟨b, cur, e, _, hb, hc⟩ := h.2 h0
 refine ⟨b, 0, e, (Array.getElem?_eq_some_iff.1 hb).1, fun k hk => ?_⟩
 have h1 := cell_of_row w b (k * 2) cur 75 (0, 0) hb
 have h2 := cell_of_row w b (k * 2 + 1) cur 75 (0, 0) hb
 rw [(hc k hk).1] at h1
 rw [(hc k hk).2] at h2
 exact ⟨by simpa using h1, by simpa using h2⟩⟩
theorem faB_own {B : Nat} {l : List (Int × Int)} (h : w.ownsRow B 75 2 v l.length (fcl l)) (hB : lo ≤ B) (hl : l.length ≤ 1000000) : ∃ S c, v = .slice S l.length c ∧ FaB w lo S l := by
 rcases h.2 with ⟨rfl, h0⟩ | ⟨g, cap, cur, rfl, hb, hg, hnc, hcm, hcs, htk⟩
 ·exact ⟨none, 0, by rw [h0], hl, fun hp => absurd hp (by omega)⟩
 ·refine ⟨_, cap, rfl, hl, fun _ => ⟨g, cur, rfl, Nat.le_trans hB hb, hg, fun k hk => ?_⟩⟩
  obtain ⟨h1, h2⟩ := fcl_get l k hk
  rw [← htk, List.getElem?_take, if_pos (by omega)] at h1 h2
  exact ⟨by simpa using h1, by simpa using h2⟩
theorem UnIs.of {l : List Un} (h : UnIs w lo xs l) (hk : ∀ b cur, lo ≤ b → w.heap[b]? = some (.cells cur 75 (0, 0)) → w'.heap[b]? = w.heap[b]?) : UnIs w' lo xs l := fun k hlt => by
 obtain ⟨S, c, h1, h2, h3, h4, h5⟩ := h k hlt
 exact ⟨S, c, h1, h2, h3.of hk, h4, h5⟩
theorem UnIs.up {l : List Un} (h : UnIs w lo xs l) (hb : Below w.heap.size w w') : UnIs w' lo xs l := h.of fun b cur _ e => hb.block b (Array.getElem?_eq_some_iff.1 e).1
/-- A block of another kind is written. -/
theorem ne_own {B s n b : Nat} {e T : TypeId} {xs : List Value} {cur : Array Value} (ho : w.ownsRow B e s v n xs) (hb : w.heap[b]? = some (.cells cur T (0, 0))) (hne : T ≠ e) : some b ≠ v.ownBlock := by
 rcases ho.2 with ⟨rfl, _⟩ | ⟨g, cap, cur', rfl, _, hg, _⟩
 ·simp [Value.ownBlock]
 ·intro he
  have : g = b := by simpa [Value.ownBlock] using he.symm
  subst this
  rw [hb] at hg
  injection hg with hg
  injection hg with _ ht
  exact hne ht
theorem un_left {a b : List Un} {k : Nat} (h : k < a.length) : un (a ++ b) k = un a k := by unfold un; simp [List.getD, List.getElem?_append_left h]
theorem un_last {a : List Un} {u : Un} : un (a ++ [u]) a.length = u := by unfold un; simp [List.getD]
theorem unIs_push {l : List Un} {u : Un} {S : Option Addr} {c : Nat} (h : UnIs w lo xs l) (hl : xs.length = l.length * 4) (hf : FaB w lo S u.needs) : UnIs w lo (xs ++ [.int .i64 u.op, .slice S u.needs.length c, .int .i64 u.var, .int .i64 u.val]) (l ++ [u]) := fun k hk => by
 by_cases e : k < l.length
 ·obtain ⟨S', c', h1, h2, h3, h4, h5⟩ := h k e
  rw [un_left e]
  exact ⟨S', c', by rw [List.getElem?_append_left (by omega)]; exact h1, by rw [List.getElem?_append_left (by omega)]; exact h2, h3, by rw [List.getElem?_append_left (by omega)]; exact h4, by rw [List.getElem?_append_left (by omega)]; exact h5⟩
 ·have : k = l.length := by simp at hk; omega
  subst this
  rw [un_last]
  refine ⟨S, c, ?_, ?_, hf, ?_, ?_⟩
  ·rw [← hl, List.getElem?_append_right (Nat.le_refl _)]; simp
  ·rw [← hl, List.getElem?_append_right (by omega)]; simp
  ·rw [← hl, List.getElem?_append_right (by omega)]; simp
  ·rw [← hl, List.getElem?_append_right (by omega)]; simp
theorem LstB.nil (w : World) (lo : Nat) : LstB w lo (.slice none 0 0) [] := ⟨[], World.ownsRow_nil _ _ _ _, fun k hk => absurd hk (by simp)⟩
theorem LstB.up {l : List Un} (h : LstB w lo v l) (hb : Below w.heap.size w w') : LstB w' lo v l := by
 obtain ⟨xs, h1, h2⟩ := h
 exact ⟨xs, own_below h1 hb, h2.up hb⟩
theorem LstB.done {l : List Un} (h : LstB w lo v l) : ∃ A c, v = .slice A l.length c ∧ UnsAt w w.heap.size A l := by
 obtain ⟨xs, ho, hu⟩ := h
 rcases ho.2 with ⟨rfl, h0⟩ | ⟨g, cap, cur, rfl, hb, hg, hnc, hcm, hcs, htk⟩
 ·exact ⟨none, 0, by rw [h0], fun hp => absurd hp (by omega)⟩
 ·refine ⟨_, cap, rfl, fun _ => ⟨g, rfl, (Array.getElem?_eq_some_iff.1 hg).1, fun k hk => ?_⟩⟩
  obtain ⟨S, c, h1, h2, h3, h4, h5⟩ := hu k hk
  have hc : ∀ (i : Nat) (u : Value), i < l.length * 4 → xs[i]? = some u → w.cell? ⟨g, i, none⟩ = some u := fun i u hi h => by
   rw [← htk, List.getElem?_take, if_pos hi] at h
   have := cell_of_row w g i cur 82 (0, 0) hg
   rw [show cur[i]? = some u by simpa using h] at this
   simpa using this
  exact ⟨S, c, hc _ _ (by omega) h1, hc _ _ (by omega) h2, h3.at_, hc _ _ (by omega) h4, hc _ _ (by omega) h5⟩
theorem UnsAt.up {A : Option Addr} {l : List Un} (h : UnsAt w w.heap.size A l) (hb : Below w.heap.size w w') : UnsAt w' w'.heap.size A l := fun h0 => by
 obtain ⟨b, e, hlt, hc⟩ := h h0
 refine ⟨b, e, Nat.lt_of_lt_of_le hlt hb.size, fun k hk => ?_⟩
 obtain ⟨S, c, h1, h2, h3, h4, h5⟩ := hc k hk
 exact ⟨S, c, (hb.cell (p := ⟨b, _, none⟩) hlt).trans h1, (hb.cell (p := ⟨b, _, none⟩) hlt).trans h2, h3.up hb, (hb.cell (p := ⟨b, _, none⟩) hlt).trans h4, (hb.cell (p := ⟨b, _, none⟩) hlt).trans h5⟩
end
/-- Where a finder's parts lie. -/
structure LiesF where
 (av ag ac au : Option Addr) (cv cg cc cu : Nat)
/-- A finder. -/
structure FindAt (w : World) (G : Nat) (t : Tsk) (q : LiesF) : Prop where
 lt : G < w.heap.size
 c0 : w.cell? ⟨G, 0, none⟩ = some (.slice q.av t.vars.length q.cv)
 c1 : w.cell? ⟨G, 1, none⟩ = some (.slice q.ag t.goal.length q.cg)
 c2 : w.cell? ⟨G, 2, none⟩ = some (.slice q.ac t.ops.length q.cc)
 c3 : w.cell? ⟨G, 3, none⟩ = some (.slice q.au (us t).length q.cu)
 vars : IntsAt w w.heap.size q.av t.vars
 goal : FactsAt w w.heap.size q.ag t.goal
 costs : IntsAt w w.heap.size q.ac (cosN t t.ops.length)
 list : UnsAt w w.heap.size q.au (us t)
theorem FindAt.up {w w' : World} {G : Nat} {t : Tsk} {q : LiesF} (h : FindAt w G t q) (hb : Below w.heap.size w w') : FindAt w' G t q :=
 ⟨Nat.lt_of_lt_of_le h.lt hb.size, (hb.cell (p := ⟨G, 0, none⟩) h.lt).trans h.c0, (hb.cell (p := ⟨G, 1, none⟩) h.lt).trans h.c1, (hb.cell (p := ⟨G, 2, none⟩) h.lt).trans h.c2, (hb.cell (p := ⟨G, 3, none⟩) h.lt).trans h.c3, h.vars.up hb, h.goal.up hb, h.costs.up hb, h.list.up hb⟩
end

section
open Go Go.RowKit
set_option linter.unusedVariables false

/-- The lengths of a task's rows. -/
def Ld (t : Tsk) (j : Nat) : Nat := (nth t.vars j).toNat

/-- Facts in range. -/
def RngF (t : Tsk) (f : List (Int × Int)) : Prop := ∀ i, i < f.length → 0 ≤ fv f i ∧ fv f i < t.vars.length ∧ 0 ≤ fx f i ∧ fx f i < nth t.vars (fv f i).toNat
theorem rng_fa {t : Tsk} {f : List (Int × Int)} (h : faB t.vars f = true) : RngF t f := fun i hi => fa_at h hi

set_option maxRecDepth 100000 in
set_option maxHeartbeats 4000000 in
theorem has_any (t : Tsk) (f : List (Int × Int)) (M : Nat → Nat → Bool) (A F : Option Addr) (c d g : Nat) (rb : Nat → Nat) (w : World) (hA : 0 < t.vars.length → A = some ⟨g, 0, none⟩) (hm : MatIs w g t.vars.length rb (Ld t) M) (hf : FactsAt w w.heap.size F f) (hr : RngF t f) :
  Calls Tryz.prog 66 #[.slice A t.vars.length c, .slice F f.length d] w fun e w' => e = .returned (.bool (hsM f M)) ∧ Below w.heap.size w w' := by
 have l1 := hf.len
 have HR := Lib.hid hr
 have HG : Hid (hsM f M = !anyB f.length fun i => !M (fv f i).toNat (fx f i).toNat) := rfl
 clear hr
 go_enter Tryz.func66, Tryz.ntmps66
 go_wp2
 go_loopw [9] (fun i wr => ∃ k : Nat, k ≤ f.length ∧ i = .int .i64 k ∧ Hid ((anyB k fun i => !M (fv f i).toNat (fx f i).toNat) = false) ∧ Below w.heap.size w wr) (fun i _ => f.length - (intOf i).toNat)
 case atStart => exact ⟨0, by omega, rfl, rfl, Below.refl _ _⟩
 case round =>
  obtain ⟨k, hk, rfl, hB, hbel⟩ := hrel
  have hbz := hbel.size
  by_cases hlt : k < f.length
  ·obtain ⟨b1, o1, e1, hb1, hc1⟩ := hf.at_ hlt
   subst e1
   have d1 := (hbel.cell (p := ⟨b1, o1 + k * 2, none⟩) hb1).trans (hc1 k hlt).1
   have d2 := (hbel.cell (p := ⟨b1, o1 + k * 2 + 1, none⟩) hb1).trans (hc1 k hlt).2
   have g1 : b1 < wr.heap.size := by omega
   have hfa := HR.out k hlt
   obtain ⟨v, hv⟩ : ∃ v : Nat, fv f k = (v : Int) := ⟨(fv f k).toNat, by omega⟩
   obtain ⟨x, hx⟩ : ∃ x : Nat, fx f k = (x : Int) := ⟨(fx f k).toNat, by omega⟩
   have HV := Lib.hid hv
   have HX := Lib.hid hx
   rw [hv, hx] at hfa
   rw [hv] at d1
   rw [hx] at d2
   have hvn : v < t.vars.length := by omega
   have hxl : x < Ld t v := by unfold Ld; have := hfa.2.2.2; simp only [Int.toNat_natCast] at this; omega
   have eA := hA (by omega)
   subst eA
   have m := hm.up hbel
   have m1 := m.top v hvn
   have m2 := m.cell hvn hxl
   have m4 := m.rlt hvn
   have m5 := m.glt
   have x0 : (0 : Int) ≤ (v : Int) := by omega
   have x1 : (v : Int) < (t.vars.length : Int) := by omega
   have x2 : (0 : Int) ≤ (x : Int) := by omega
   have x3 : (x : Int) < (Ld t v : Int) := by omega
   clear hc1 m hv hx hfa
   cases e2 : M v x
   ·rw [e2] at m2
    have Hr := Lib.hid (show hsM f M = false by rw [HG.out, anyB_true.2 ⟨k, hlt, by rw [HV.out, HX.out]; simp [e2]⟩]; rfl)
    go_wp2_with fail
    go_quiet (fail)
    go_wp2
    go_ret
    exact ⟨bool_ret Hr.out.symm, by exact bel⟩
   ·rw [e2] at m2
    go_wp2_with fail
    go_quiet (fail)
    go_wp2
    go_roundw
    case rel => exact ⟨k + 1, by omega, by go_num, Lib.hid (by rw [anyB_succ, hB.out, HV.out, HX.out]; simp [e2]), by exact bel⟩
    case measure => simp [intOf]; omega
  ·obtain rfl : k = f.length := by omega
   have Hr := Lib.hid (show hsM f M = true by rw [HG.out, hB.out]; rfl)
   go_wp2
   go_ret
   exact ⟨bool_ret Hr.out.symm, hbel⟩

set_option maxRecDepth 100000 in
set_option maxHeartbeats 4000000 in
theorem rall_any (t : Tsk) (f : List (Int × Int)) (M : Nat → Nat → Bool) (A F : Option Addr) (c d g : Nat) (rb : Nat → Nat) (w : World) (hA : 0 < t.vars.length → A = some ⟨g, 0, none⟩) (hm : MatIs w g t.vars.length rb (Ld t) M) (hf : FactsAt w w.heap.size F f) (hr : RngF t f) :
  Calls Tryz.prog 75 #[.slice F f.length d, .slice A t.vars.length c] w fun e w' => e = .returned (.bool (hsM f M)) ∧ Below w.heap.size w w' := by
 have l1 := hf.len
 have HR := Lib.hid hr
 have HG : Hid (hsM f M = !anyB f.length fun i => !M (fv f i).toNat (fx f i).toNat) := rfl
 clear hr
 go_enter Tryz.func75, Tryz.ntmps75
 go_wp2
 go_loopw [9] (fun i wr => ∃ k : Nat, k ≤ f.length ∧ i = .int .i64 k ∧ Hid ((anyB k fun i => !M (fv f i).toNat (fx f i).toNat) = false) ∧ Below w.heap.size w wr) (fun i _ => f.length - (intOf i).toNat)
 case atStart => exact ⟨0, by omega, rfl, rfl, Below.refl _ _⟩
 case round =>
  obtain ⟨k, hk, rfl, hB, hbel⟩ := hrel
  have hbz := hbel.size
  by_cases hlt : k < f.length
  ·obtain ⟨b1, o1, e1, hb1, hc1⟩ := hf.at_ hlt
   subst e1
   have d1 := (hbel.cell (p := ⟨b1, o1 + k * 2, none⟩) hb1).trans (hc1 k hlt).1
   have d2 := (hbel.cell (p := ⟨b1, o1 + k * 2 + 1, none⟩) hb1).trans (hc1 k hlt).2
   have g1 : b1 < wr.heap.size := by omega
   have hfa := HR.out k hlt
   obtain ⟨v, hv⟩ : ∃ v : Nat, fv f k = (v : Int) := ⟨(fv f k).toNat, by omega⟩
   obtain ⟨x, hx⟩ : ∃ x : Nat, fx f k = (x : Int) := ⟨(fx f k).toNat, by omega⟩
   have HV := Lib.hid hv
   have HX := Lib.hid hx
   rw [hv, hx] at hfa
   rw [hv] at d1
   rw [hx] at d2
   have hvn : v < t.vars.length := by omega
   have hxl : x < Ld t v := by unfold Ld; have := hfa.2.2.2; simp only [Int.toNat_natCast] at this; omega
   have eA := hA (by omega)
   subst eA
   have m := hm.up hbel
   have m1 := m.top v hvn
   have m2 := m.cell hvn hxl
   have m4 := m.rlt hvn
   have m5 := m.glt
   have x0 : (0 : Int) ≤ (v : Int) := by omega
   have x1 : (v : Int) < (t.vars.length : Int) := by omega
   have x2 : (0 : Int) ≤ (x : Int) := by omega
   have x3 : (x : Int) < (Ld t v : Int) := by omega
   clear hc1 m hv hx hfa
   cases e2 : M v x
   ·rw [e2] at m2
    have Hr := Lib.hid (show hsM f M = false by rw [HG.out, anyB_true.2 ⟨k, hlt, by rw [HV.out, HX.out]; simp [e2]⟩]; rfl)
    go_wp2_with fail
    go_quiet (fail)
    go_wp2
    go_ret
    exact ⟨bool_ret Hr.out.symm, by exact bel⟩
   ·rw [e2] at m2
    go_wp2_with fail
    go_quiet (fail)
    go_wp2
    go_roundw
    case rel => exact ⟨k + 1, by omega, by go_num, Lib.hid (by rw [anyB_succ, hB.out, HV.out, HX.out]; simp [e2]), by exact bel⟩
    case measure => simp [intOf]; omega
  ·obtain rfl : k = f.length := by omega
   have Hr := Lib.hid (show hsM f M = true by rw [HG.out, hB.out]; rfl)
   go_wp2
   go_ret
   exact ⟨bool_ret Hr.out.symm, hbel⟩

set_option maxHeartbeats 1000000 in
theorem nothing_any (w : World) : Calls Tryz.prog 65 #[] w fun e w' => e = .returned (.agg #[.int .i64 (-1), .int .i64 (-1)]) ∧ Below w.heap.size w w' := by
 go_enter Tryz.func65, Tryz.ntmps65
 go_wp2
 refine bodyPost_ret (v := .agg #[.int .i64 (-1), .int .i64 (-1)]) (by simp [results, Tryz.results65, go_sem]) rfl ⟨rfl, by exact bel⟩
set_option maxHeartbeats 1000000 in
theorem rnone_any (w : World) : Calls Tryz.prog 77 #[] w fun e w' => e = .returned (.agg #[.int .i64 (-1), .int .i64 0]) ∧ Below w.heap.size w w' := by
 go_enter Tryz.func77, Tryz.ntmps77
 go_wp2
 refine bodyPost_ret (v := .agg #[.int .i64 (-1), .int .i64 0]) (by simp [results, Tryz.results77, go_sem]) rfl ⟨rfl, by exact bel⟩
end

section
open Go Go.RowKit
set_option linter.unusedVariables false

theorem infoF8 : (Tryz.prog.info? 75).map (fun i => (i.zero, i.size, i.bytes)) = some (some (.agg #[.int .i64 0, .int .i64 0]), 2, 16) := by kernel_rfl
theorem undF8 : Tryz.prog.underlying 23 = some (.slice 75) := by kernel_rfl
theorem infoI8 : (Tryz.prog.info? 3).map (fun i => (i.zero, i.size, i.bytes)) = some (some (.int .i64 0), 1, 8) := by kernel_rfl
theorem undI8 : Tryz.prog.underlying 22 = some (.slice 3) := by kernel_rfl
theorem infoU8 : (Tryz.prog.info? 82).map (fun i => (i.zero, i.size, i.bytes)) = some (some (.agg #[.int .i64 0, .slice none 0 0, .int .i64 0, .int .i64 0]), 4, 48) := by kernel_rfl
theorem undU8 : Tryz.prog.underlying 76 = some (.slice 82) := by kernel_rfl

set_option maxRecDepth 4000 in
set_option maxHeartbeats 1000000 in
theorem cloneF_any (l : List (Int × Int)) (A : Option Addr) (c : Nat) (w : World) (h : FactsAt w w.heap.size A l) (hs : l.length ≤ 1000000) :
  Calls Tryz.prog 30 #[.slice A l.length c] w fun e w' => (∃ v, e = .returned v ∧ w'.ownsRow w.heap.size 75 2 v l.length (fcl l)) ∧ Below w.heap.size w w' := by
 obtain ⟨inf, hi, hz0, hz1, hz2⟩ := info_parts infoF8
 have hA : A = none → l = [] := fun e => by
  rcases Nat.eq_zero_or_pos l.length with h0 | h0
  ·exact List.length_eq_zero_iff.1 h0
  ·obtain ⟨b, off, e2, _⟩ := h.2 h0; rw [e] at e2; cases e2
 cases A with
 | none =>
  obtain rfl := hA rfl
  have heq : ∀ w', (binOp .eql 23 (.slice none ([] : List (Int × Int)).length c) (.slice none 0 0)).run Tryz.prog w' = .ok (.bool true) w' := fun w' => Lib.run_eql_slice_nil_nil w' _ c undF8
  simp only [List.length_nil] at heq ⊢
  go_enter Tryz.func30, Tryz.ntmps30
  go_wp2
  go_ret
  exact ⟨⟨_, rfl, World.ownsRow_nil _ _ _ _⟩, by exact bel⟩
 | some ad =>
  have Hn := Lib.hid (show ∀ o : Obj, SrcNt (w.alloc o) (some ad) l.length c 2 (fcl l) from fun o => facts_srn (h.up ((Below.refl _ _).alloc (Nat.le_refl _) o)))
  clear hA
  have heq : ∀ w', (binOp .eql 23 (.slice (some ad) l.length c) (.slice none 0 0)).run Tryz.prog w' = .ok (.bool false) w' := fun w' => Lib.run_eql_slice_some_nil w' ad _ c undF8
  go_enter Tryz.func30, Tryz.ntmps30
  go_wp2_with (at_builtin; refine wpList_append_srn rfl _ _ 23 rfl w.heap.size 75 inf (.agg #[.int .i64 0, .int .i64 0]) 2 16 undF8 hi hz0 hz1 hz2 rfl (by decide) _ 0 [] rfl (World.ownsRow_made w #[] 0 (Nat.le_refl _) (by simp [maxLen]) rfl) (some ad) l.length c (fcl l) rfl (Hn.out _) (by unfold maxLen; omega) (by omega) (by simp) ?_; intro v' w1 hown' hgrow _; simp only [Nat.zero_add, List.nil_append] at hown'; have hb1 : Below w.heap.size w w1 := grown_below2 (s := 2) (Below.alloc (Below.refl _ _) (Nat.le_refl _) _) (Nat.le_refl _) (World.ownsRow_made w #[] 0 (Nat.le_refl _) (by simp [maxLen]) rfl) hgrow; have Hown := Lib.hid hown'; clear hgrow hown')
  go_ret
  exact ⟨⟨_, rfl, Hown.out⟩, hb1⟩
end

end Go.Proofs.YtaampjhdgeoicaaGreat
