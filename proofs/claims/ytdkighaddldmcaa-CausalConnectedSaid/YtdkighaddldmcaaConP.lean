/- Connected patterns, plain: marks that spread within a pattern. No program in sight. -/
import Derived.Test.YtdkighaddldmcaaCauQ
namespace Go.Proofs.Ytdkighaddldmcaa
set_option linter.unusedSimpArgs false
set_option linter.unusedVariables false
open Go.RowKit
set_option linter.unusedVariables false

/-- The k-th variable of a pattern; an arc between two places of it, either way. -/
def pv (P : List Int) (j : Nat) : Nat := (nth P j).toNat
def adB (t : Tsk) (P : List Int) (i j : Nat) : Bool := arB t (pv P i) (pv P j) || arB t (pv P j) (pv P i)
inductive CRel (t : Tsk) (P : List Int) : Nat → Prop
  | zero : CRel t P 0
  | step {i j : Nat} : CRel t P i → i < P.length → j < P.length → adB t P i j = true → CRel t P j
open Classical in
noncomputable def conB (t : Tsk) (P : List Int) : Bool := decide (∀ j, j < P.length → CRel t P j)
/-- Ascending, in range. -/
def PaP (n : Nat) (P : List Int) : Prop := ∀ k, k < P.length → 0 ≤ nth P k ∧ nth P k < n ∧ (0 < k → nth P (k - 1) < nth P k)
instance (n : Nat) (P : List Int) : Decidable (PaP n P) := by unfold PaP; exact inferInstance
theorem pa_lt {n : Nat} {P : List Int} (h : PaP n P) : ∀ {i j : Nat}, i < j → j < P.length → nth P i < nth P j
  | i, 0, hi, _ => absurd hi (by omega)
  | i, j + 1, hi, hj => by
    have h1 := (h (j + 1) hj).2.2 (by omega)
    rw [Nat.add_sub_cancel] at h1
    by_cases e : i = j
    · subst e; exact h1
    · have := pa_lt h (show i < j by omega) (by omega); omega
theorem pa_inj {n : Nat} {P : List Int} (h : PaP n P) {i j : Nat} (hi : i < P.length) (hj : j < P.length) (e : nth P i = nth P j) : i = j := by
  rcases Nat.lt_trichotomy i j with h1 | h1 | h1
  · have := pa_lt h h1 hj; omega
  · exact h1
  · have := pa_lt h h1 hi; omega
theorem cntF_zero {f : Nat → Bool} : ∀ {n : Nat}, cntF f n = 0 ↔ ∀ j, j < n → f j = true
  | 0 => ⟨fun _ j hj => absurd hj (by omega), fun _ => rfl⟩
  | n + 1 => by
    have ih := cntF_zero (f := f) (n := n)
    have e : cntF f (n + 1) = cntF f n + if f n then 0 else 1 := rfl
    constructor
    · intro h j hj
      cases hf : f n
      · rw [e, hf] at h; simp at h
      · rw [e, hf] at h
        rcases Nat.lt_succ_iff_lt_or_eq.1 hj with h1 | rfl
        · exact ih.1 (by simpa using h) j h1
        · exact hf
    · intro h
      rw [e, ih.2 fun j hj => h j (by omega), h n (by omega)]; rfl
theorem cntF_one : ∀ m, cntF (fun j => j == 0) (m + 1) = m
  | 0 => rfl
  | m + 1 => by
    have e : cntF (fun j => j == 0) (m + 2) = cntF (fun j => j == 0) (m + 1) + if ((m + 1) == 0) = true then 0 else 1 := rfl
    rw [e, cntF_one m]; simp
def ixA (ix : List Nat) (k : Nat) : Nat := ix.getD k 0
theorem ixA_app {ix : List Nat} {x k : Nat} (h : k < ix.length) : ixA (ix ++ [x]) k = ixA ix k := by unfold ixA; simp [List.getD, List.getElem?_append_left h]
theorem ixA_last {ix : List Nat} {x : Nat} : ixA (ix ++ [x]) ix.length = x := by unfold ixA; simp [List.getD]
/-- The values of places. -/
def sqL (P : List Int) (ix : List Nat) : List Int := ix.map fun j => nth P j
theorem sqL_len (P : List Int) (ix : List Nat) : (sqL P ix).length = ix.length := by unfold sqL; simp
theorem sqL_nth {P : List Int} {ix : List Nat} {k : Nat} (h : k < ix.length) : nth (sqL P ix) k = nth P (ixA ix k) := by unfold sqL nth ixA; simp [List.getD, h]
theorem sqL_app (P : List Int) (ix : List Nat) (x : Nat) : sqL P (ix ++ [x]) = sqL P ix ++ [nth P x] := by unfold sqL; simp
/-- What holds while the places are worked off. -/
structure CnI (t : Tsk) (P : List Int) (f : Nat → Bool) (ix : List Nat) (i : Nat) (j0 : Nat) : Prop where
  a : ∀ k, k < ix.length → ixA ix k < P.length ∧ f (ixA ix k) = true
  b : ∀ j, j < P.length → f j = true → ∃ k, k < ix.length ∧ ixA ix k = j
  c : ∀ j, j < P.length → f j = true → CRel t P j
  d : f 0 = true
  e : ∀ k j, k < ix.length → j < P.length → (k < i ∨ (k = i ∧ j < j0)) → adB t P (ixA ix k) j = true → f j = true
  n : ix.length + cntF f P.length = P.length
section
variable {t : Tsk} {P : List Int} {f : Nat → Bool} {ix : List Nat} {i j0 : Nat}
theorem cn_start (hm : 0 < P.length) : CnI t P (fun j => j == 0) [0] 0 0 := by
  refine ⟨fun k hk => ?_, fun j hj h => ⟨0, by simp, by simp at h; rw [h]; rfl⟩, fun j hj h => by simp at h; rw [h]; exact .zero, rfl, fun k j hk hj h => by omega, ?_⟩
  · have : k = 0 := by simp at hk; omega
    subst this; exact ⟨hm, rfl⟩
  · obtain ⟨m, hm2⟩ : ∃ m, P.length = m + 1 := ⟨P.length - 1, by omega⟩
    rw [hm2, cntF_one]; simp; omega
theorem cn_skip (h : CnI t P f ix i j0) (hs : adB t P (ixA ix i) j0 = false ∨ f j0 = true) : CnI t P f ix i (j0 + 1) :=
  ⟨h.a, h.b, h.c, h.d, fun k j hk hj hx ha => by
    by_cases e : k = i ∧ j = j0
    · obtain ⟨rfl, rfl⟩ := e
      rcases hs with hs | hs
      · rw [hs] at ha; cases ha
      · exact hs
    · exact h.e k j hk hj (by omega) ha, h.n⟩
theorem cn_push (h : CnI t P f ix i j0) (hi : i < ix.length) (hj : j0 < P.length) (ha : adB t P (ixA ix i) j0 = true) (hf : f j0 = false) : CnI t P (setF f j0) (ix ++ [j0]) i (j0 + 1) := by
  have hset : ∀ v, f v = true → setF f j0 v = true := fun v hv => by unfold setF; split <;> simp [hv]
  have hown : setF f j0 j0 = true := by unfold setF; rw [if_pos rfl]
  refine ⟨fun k hk => ?_, fun j hjl hfj => ?_, fun j hjl hfj => ?_, hset 0 h.d, fun k j hk hjl hx had => ?_, ?_⟩
  · by_cases e : k < ix.length
    · rw [ixA_app e]; exact ⟨(h.a k e).1, hset _ (h.a k e).2⟩
    · have : k = ix.length := by simp at hk; omega
      subst this; rw [ixA_last]; exact ⟨hj, hown⟩
  · by_cases e : j = j0
    · subst e; exact ⟨ix.length, by simp, ixA_last⟩
    · have : f j = true := by unfold setF at hfj; rwa [if_neg e] at hfj
      obtain ⟨k, hk, he⟩ := h.b j hjl this
      exact ⟨k, by simp; omega, by rw [ixA_app hk]; exact he⟩
  · by_cases e : j = j0
    · subst e; exact .step (h.c _ (h.a i hi).1 (h.a i hi).2) (h.a i hi).1 hj ha
    · exact h.c j hjl (by unfold setF at hfj; rwa [if_neg e] at hfj)
  · have hki : k < ix.length := by omega
    rw [ixA_app hki] at had
    by_cases e : j = j0
    · subst e; exact hown
    · exact hset _ (h.e k j hki hjl (by omega) had)
  · have := cntF_set hf hj
    have := h.n
    simp; omega
theorem cn_next (h : CnI t P f ix i P.length) : CnI t P f ix (i + 1) 0 :=
  ⟨h.a, h.b, h.c, h.d, fun k j hk hj hx ha => h.e k j hk hj (by omega) ha, h.n⟩
theorem cn_all (hd : f 0 = true) (hc : ∀ j, j < P.length → f j = true → CRel t P j) (he : ∀ i j, i < P.length → j < P.length → f i = true → adB t P i j = true → f j = true) : conB t P = decide (cntF f P.length = 0) := by
  have h1 : ∀ j, j < P.length → (f j = true ↔ CRel t P j) := fun j hj => ⟨hc j hj, fun h => by
    induction h with
    | zero => exact hd
    | step h hi hj' ha ih => exact he _ _ hi hj' (ih hi) ha⟩
  unfold conB
  rw [decide_eq_decide, cntF_zero]
  exact ⟨fun h j hj => (h1 j hj).2 (h j hj), fun h j hj => (h1 j hj).1 (h j hj)⟩
theorem cn_end (h : CnI t P f ix i 0) (hi : ix.length ≤ i) : conB t P = decide (ix.length = P.length) := by
  rw [cn_all h.d h.c fun a b ha hb hfa had => by
    obtain ⟨k, hk, e⟩ := h.b a ha hfa
    exact h.e k b hk hb (.inl (by omega)) (by rw [e]; exact had)]
  have := h.n
  rw [decide_eq_decide]; omega
theorem cn_has {n : Nat} (hp : PaP n P) (h : CnI t P f ix i j0) {j : Nat} (hj : j < P.length) : (anyB (sqL P ix).length fun k => nth (sqL P ix) k == nth P j) = f j := by
  rw [sqL_len, Bool.eq_iff_iff, anyB_true]
  constructor
  · rintro ⟨k, hk, he⟩
    rw [sqL_nth hk] at he
    have hx := pa_inj hp (h.a k hk).1 hj (by simpa using he)
    rw [← hx]; exact (h.a k hk).2
  · intro hf
    obtain ⟨k, hk, e⟩ := h.b j hj hf
    exact ⟨k, hk, by rw [sqL_nth hk, e]; simp⟩
end

end Go.Proofs.Ytdkighaddldmcaa
