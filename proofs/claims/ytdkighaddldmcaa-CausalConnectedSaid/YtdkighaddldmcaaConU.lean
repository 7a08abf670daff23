/- Connected patterns, plain: the union of two connected patterns with a common place is connected; patterns of bits. -/
import Derived.Test.YtdkighaddldmcaaConP
namespace Go.Proofs.Ytdkighaddldmcaa
set_option linter.unusedSimpArgs false
set_option linter.unusedVariables false
open Go.RowKit
set_option linter.unusedVariables false

inductive CR (t : Tsk) (P : List Int) : Nat → Nat → Prop
  | refl (i : Nat) : CR t P i i
  | step {i j k : Nat} : CR t P i j → j < P.length → k < P.length → adB t P j k = true → CR t P i k
section
variable {t : Tsk} {P Q R : List Int} {i j k : Nat}
theorem CR.trans (h1 : CR t P i j) (h2 : CR t P j k) : CR t P i k := by
  induction h2 with
  | refl => exact h1
  | step _ hj hk ha ih => exact .step ih hj hk ha
theorem adB_symm : adB t P i j = adB t P j i := by unfold adB; exact Bool.or_comm _ _
theorem CR.symm (h : CR t P i j) : CR t P j i := by
  induction h with
  | refl => exact .refl _
  | step _ hj hk ha ih => exact (CR.step (.refl _) hk hj (by rw [adB_symm]; exact ha)).trans ih
theorem cr_of (h : CRel t P j) : CR t P 0 j := by
  induction h with
  | zero => exact .refl _
  | step _ hj hk ha ih => exact .step ih hj hk ha
theorem cr_to (h : CR t P 0 j) : CRel t P j := by
  generalize e : 0 = z at h
  induction h with
  | refl => subst e; exact .zero
  | step _ hj hk ha ih => exact .step ih hj hk ha
open Classical in
theorem conB_true : conB t P = true ↔ ∀ j, j < P.length → CRel t P j := by unfold conB; exact decide_eq_true_iff
theorem con_short (h : P.length < 2) : conB t P = true := conB_true.2 fun j hj => by
  have : j = 0 := by omega
  subst this; exact .zero
theorem con_two (h : conB t P = true) (hi : i < P.length) (hj : j < P.length) : CR t P i j :=
  (cr_of (conB_true.1 h i hi)).symm.trans (cr_of (conB_true.1 h j hj))
/-- A path of P is a path of a larger pattern. -/
theorem cr_up {n : Nat} (hR : PaP n R) (hs : ∀ i, i < P.length → ∃ r, r < R.length ∧ nth R r = nth P i) (h : CR t P i j) {r : Nat} (hr : r < R.length) (e : nth R r = nth P i) :
    ∀ s, s < R.length → nth R s = nth P j → CR t R r s := by
  induction h with
  | refl =>
    intro s hs' e'
    have : r = s := pa_inj hR hr hs' (e.trans e'.symm)
    subst this; exact .refl _
  | @step j k _ hj hk ha ih =>
    intro s hs' e'
    obtain ⟨q, hq, eq⟩ := hs j hj
    refine .step (ih q hq eq) hq hs' ?_
    unfold adB pv at *
    rw [eq, e']; exact ha
theorem con_union {n : Nat} (hR : PaP n R) (hP : ∀ i, i < P.length → ∃ r, r < R.length ∧ nth R r = nth P i) (hQ : ∀ i, i < Q.length → ∃ r, r < R.length ∧ nth R r = nth Q i)
    (hU : ∀ r, r < R.length → (∃ i, i < P.length ∧ nth R r = nth P i) ∨ ∃ i, i < Q.length ∧ nth R r = nth Q i) (cP : conB t P = true) (cQ : conB t Q = true)
    (hi : i < P.length) (hj : j < Q.length) (e : nth P i = nth Q j) : conB t R = true := by
  obtain ⟨r, hr, er⟩ := hP i hi
  have hall : ∀ s, s < R.length → CR t R r s := fun s hs => by
    rcases hU s hs with ⟨k, hk, ek⟩ | ⟨k, hk, ek⟩
    · exact cr_up hR hP (con_two cP hi hk) hr er s hs ek
    · exact cr_up hR hQ (con_two cQ hj hk) hr (er.trans e) s hs ek
  exact conB_true.2 fun s hs => cr_to ((hall 0 (by omega)).symm.trans (hall s hs))
end
/-- The places of a set of bits, ascending. -/
def bitL (f : Nat → Bool) : Nat → List Int
  | 0 => []
  | k + 1 => if f k then bitL f k ++ [(k : Int)] else bitL f k
theorem bitL_len (f : Nat → Bool) : ∀ n, (bitL f n).length ≤ n
  | 0 => Nat.le_refl _
  | n + 1 => by
    have := bitL_len f n
    unfold bitL; split
    · rw [List.length_append]; simp; omega
    · omega
theorem nth_appL {l m : List Int} {k : Nat} (h : k < l.length) : nth (l ++ m) k = nth l k := by unfold nth; simp [List.getD, List.getElem?_append_left h]
theorem nth_appR {l : List Int} {x : Int} : nth (l ++ [x]) l.length = x := by unfold nth; simp [List.getD]
theorem bitL_in {f : Nat → Bool} : ∀ {n i : Nat}, i < (bitL f n).length → ∃ k, k < n ∧ nth (bitL f n) i = (k : Int) ∧ f k = true
  | 0, i, h => absurd h (by simp [bitL])
  | n + 1, i, h => by
    unfold bitL at h ⊢
    split at h <;> rename_i hf
    · rw [if_pos hf]
      by_cases hi : i < (bitL f n).length
      · obtain ⟨k, hk, e, hb⟩ := bitL_in hi
        exact ⟨k, by omega, by rw [nth_appL hi]; exact e, hb⟩
      · have : i = (bitL f n).length := by rw [List.length_append] at h; simp at h; omega
        subst this
        exact ⟨n, by omega, nth_appR, hf⟩
    · rw [if_neg hf]
      obtain ⟨k, hk, e, hb⟩ := bitL_in h
      exact ⟨k, by omega, e, hb⟩
theorem bitL_has {f : Nat → Bool} : ∀ {n k : Nat}, k < n → f k = true → ∃ i, i < (bitL f n).length ∧ nth (bitL f n) i = (k : Int)
  | 0, k, h, _ => absurd h (by omega)
  | n + 1, k, h, hf => by
    by_cases e : k = n
    · subst e
      have e : bitL f (k + 1) = bitL f k ++ [(k : Int)] := by show (if f k then bitL f k ++ [(k : Int)] else bitL f k) = _; rw [if_pos hf]
      rw [e]
      exact ⟨(bitL f k).length, by rw [List.length_append]; simp, nth_appR⟩
    · obtain ⟨i, hi, ei⟩ := bitL_has (f := f) (show k < n by omega) hf
      refine ⟨i, ?_, ?_⟩ <;> (unfold bitL; split)
      · rw [List.length_append]; omega
      · exact hi
      · rw [nth_appL hi]; exact ei
      · exact ei
theorem bitL_pa {f : Nat → Bool} {N : Nat} : ∀ {n : Nat}, n ≤ N → PaP N (bitL f n)
  | 0, _ => fun k hk => absurd hk (by simp [bitL])
  | n + 1, h => by
    have ih := bitL_pa (f := f) (N := N) (n := n) (by omega)
    unfold bitL; split
    · intro k hk
      rw [List.length_append] at hk
      by_cases e : k < (bitL f n).length
      · rw [nth_appL e]
        refine ⟨(ih k e).1, (ih k e).2.1, fun h0 => ?_⟩
        rw [nth_appL (by omega)]
        exact (ih k e).2.2 h0
      · have : k = (bitL f n).length := by simp at hk; omega
        subst this
        rw [nth_appR]
        refine ⟨by omega, by omega, fun h0 => ?_⟩
        rw [nth_appL (by omega)]
        obtain ⟨j, hj, ej, _⟩ := bitL_in (f := f) (n := n) (i := (bitL f n).length - 1) (by omega)
        rw [ej]; omega
    · exact ih
/-- What the law CausalConnected asks at its end. -/
theorem con_bits {t : Tsk} {f g h : Nat → Bool} {n N : Nat} (hn : n ≤ N) (hh : ∀ k, k < n → h k = (f k || g k)) (cf : conB t (bitL f n) = true) (cg : conB t (bitL g n) = true)
    {i : Nat} (hi : i < (bitL f n).length) (hg : g (nth (bitL f n) i).toNat = true) : conB t (bitL h n) = true := by
  obtain ⟨k, hk, e, hf⟩ := bitL_in hi
  rw [e, Int.toNat_natCast] at hg
  obtain ⟨j, hj, ej⟩ := bitL_has (n := n) hk hg
  refine con_union (bitL_pa hn) (fun i hi => ?_) (fun i hi => ?_) (fun r hr => ?_) cf cg hi hj (e.trans ej.symm)
  · obtain ⟨k, hk, e, hf⟩ := bitL_in hi
    obtain ⟨r, hr, er⟩ := bitL_has (f := h) hk (by rw [hh k hk, hf]; rfl)
    exact ⟨r, hr, er.trans e.symm⟩
  · obtain ⟨k, hk, e, hf⟩ := bitL_in hi
    obtain ⟨r, hr, er⟩ := bitL_has (f := h) hk (by rw [hh k hk, hf]; simp)
    exact ⟨r, hr, er.trans e.symm⟩
  · obtain ⟨k, hk, e, hb⟩ := bitL_in hr
    rw [hh k hk] at hb
    rcases Bool.or_eq_true_iff.1 hb with hb | hb
    · obtain ⟨i, hi, ei⟩ := bitL_has hk hb
      exact .inl ⟨i, hi, e.trans ei.symm⟩
    · obtain ⟨i, hi, ei⟩ := bitL_has hk hb
      exact .inr ⟨i, hi, e.trans ei.symm⟩

end Go.Proofs.Ytdkighaddldmcaa
