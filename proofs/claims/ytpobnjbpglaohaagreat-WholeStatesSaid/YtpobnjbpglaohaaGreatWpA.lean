/- pack: fields in words, plain. -/
import Derived.Test.YtpobnjbpglaohaaGreatWgA
namespace Go.Proofs.YtpobnjbpglaohaaGreat
set_option linter.unusedSimpArgs false
set_option linter.unusedVariables false
open Go
set_option linter.unusedVariables false

/-- The place of a variable: its word, its first bit, its width, the number of its values. -/
structure Fld where
  word : Nat
  bit : Nat
  width : Nat
  size : Nat
/-- How wide a variable of n values is. -/
def wdN (n : Nat) : Nat := if n ≤ 1 then 0 else if n ≤ 2 then 1 else if n ≤ 4 then 2 else if n ≤ 8 then 3 else if n ≤ 16 then 4 else if n ≤ 32 then 5 else 6
theorem wdN_le {n : Nat} (h : n ≤ 64) : n ≤ 2 ^ wdN n ∧ wdN n ≤ 6 := by
  unfold wdN
  repeat (first | (split) | (constructor <;> omega))
theorem wdN_of {n j : Nat} (h : n ≤ 64) (h1 : n ≤ 2 ^ j) (h2 : ∀ i, i < j → 2 ^ i < n) : wdN n = j := by
  have hj : j ≤ 6 := by
    rcases Nat.lt_or_ge 6 j with h3 | h3
    · have := h2 6 h3; omega
    · exact h3
  have hc : j = 0 ∨ j = 1 ∨ j = 2 ∨ j = 3 ∨ j = 4 ∨ j = 5 ∨ j = 6 := by omega
  unfold wdN
  rcases hc with rfl | rfl | rfl | rfl | rfl | rfl | rfl
  · simp at h1; rw [if_pos h1]
  · have := h2 0 (by omega); simp at this h1; rw [if_neg (by omega), if_pos h1]
  · have := h2 1 (by omega); simp at this h1; rw [if_neg (by omega), if_neg (by omega), if_pos h1]
  · have := h2 2 (by omega); simp at this h1; rw [if_neg (by omega), if_neg (by omega), if_neg (by omega), if_pos h1]
  · have := h2 3 (by omega); simp at this h1; rw [if_neg (by omega), if_neg (by omega), if_neg (by omega), if_neg (by omega), if_pos h1]
  · have := h2 4 (by omega); simp at this h1; rw [if_neg (by omega), if_neg (by omega), if_neg (by omega), if_neg (by omega), if_neg (by omega), if_pos h1]
  · have := h2 5 (by omega); simp at this h1; rw [if_neg (by omega), if_neg (by omega), if_neg (by omega), if_neg (by omega), if_neg (by omega), if_neg (by omega)]
/-- The fields of variables, and the number of words: w words so far, b bits of the last one. -/
def mkF : List Nat → Nat → Nat → List Fld × Nat
  | [], w, _ => ([], w)
  | n :: r, w, b => if 64 < b + wdN n then (⟨w, 0, wdN n, n⟩ :: (mkF r (w + 1) (wdN n)).1, (mkF r (w + 1) (wdN n)).2)
    else (⟨w - 1, b, wdN n, n⟩ :: (mkF r w (b + wdN n)).1, (mkF r w (b + wdN n)).2)
theorem mkF_len : ∀ (l : List Nat) (w b : Nat), (mkF l w b).1.length = l.length
  | [], _, _ => rfl
  | n :: r, w, b => by
    unfold mkF
    split
    · simp [mkF_len r]
    · simp [mkF_len r]
theorem mkF_ge : ∀ (l : List Nat) (w b : Nat), w ≤ (mkF l w b).2
  | [], _, _ => Nat.le_refl _
  | n :: r, w, b => by
    unfold mkF
    split
    · exact Nat.le_trans (Nat.le_succ _) (mkF_ge r (w + 1) (wdN n))
    · exact mkF_ge r w (b + wdN n)
/-- One field lies ahead of another. -/
def FAhead (f g : Fld) : Prop := f.word ≠ g.word ∨ f.bit + f.width ≤ g.bit
theorem mkF_ok : ∀ (l : List Nat) (w b : Nat), (∀ n ∈ l, n ≤ 64) → 1 ≤ w → b ≤ 64 →
    (∀ f ∈ (mkF l w b).1, f.word < (mkF l w b).2 ∧ f.bit + f.width ≤ 64 ∧ f.size ≤ 2 ^ f.width ∧ f.width ≤ 6 ∧ (w ≤ f.word ∨ (f.word = w - 1 ∧ b ≤ f.bit))) ∧ (mkF l w b).1.Pairwise FAhead
  | [], w, b, _, _, _ => ⟨(fun f hf => nomatch hf), List.Pairwise.nil⟩
  | n :: r, w, b, hl, hw, hb => by
    obtain ⟨h1, h2⟩ := wdN_le (hl n (by simp))
    have hr : ∀ n ∈ r, n ≤ 64 := fun m hm => hl m (by simp [hm])
    unfold mkF
    split
    · rename_i h
      obtain ⟨h3, h4⟩ := mkF_ok r (w + 1) (wdN n) hr (by omega) (by omega)
      have hge := mkF_ge r (w + 1) (wdN n)
      refine ⟨fun f hf => ?_, List.Pairwise.cons (fun g hg => ?_) h4⟩
      · rcases List.mem_cons.1 hf with rfl | hf
        · exact ⟨by show w < _; omega, by show 0 + wdN n ≤ 64; omega, h1, h2, .inl (Nat.le_refl _)⟩
        · obtain ⟨a1, a2, a3, a4, a5⟩ := h3 f hf
          exact ⟨a1, a2, a3, a4, .inl (by omega)⟩
      · obtain ⟨_, _, _, _, a5⟩ := h3 g hg
        unfold FAhead
        show w ≠ g.word ∨ 0 + wdN n ≤ g.bit
        omega
    · rename_i h
      obtain ⟨h3, h4⟩ := mkF_ok r w (b + wdN n) hr hw (by omega)
      have hge := mkF_ge r w (b + wdN n)
      refine ⟨fun f hf => ?_, List.Pairwise.cons (fun g hg => ?_) h4⟩
      · rcases List.mem_cons.1 hf with rfl | hf
        · exact ⟨by show w - 1 < _; omega, by show b + wdN n ≤ 64; omega, h1, h2, .inr ⟨rfl, Nat.le_refl _⟩⟩
        · obtain ⟨a1, a2, a3, a4, a5⟩ := h3 f hf
          exact ⟨a1, a2, a3, a4, by omega⟩
      · obtain ⟨_, _, _, _, a5⟩ := h3 g hg
        unfold FAhead
        show w - 1 ≠ g.word ∨ b + wdN n ≤ g.bit
        omega
/-- Word j. -/
def wd (W : List Nat) (j : Nat) : Nat := W.getD j 0
theorem wd_set (W : List Nat) (i j v : Nat) (hi : i < W.length) : wd (W.set i v) j = if i = j then v else wd W j := by
  unfold wd
  simp only [List.getD, List.getElem?_set]
  split
  · rename_i h; subst h; simp [hi]
  · rfl
/-- Values laid into their fields. -/
def packW : List Nat → List (Fld × Nat) → List Nat
  | W, [] => W
  | W, (f, x) :: r => packW (W.set f.word (wd W f.word ||| x <<< f.bit)) r
theorem packW_len : ∀ (l : List (Fld × Nat)) (W : List Nat), (packW W l).length = W.length
  | [], W => rfl
  | (f, x) :: r, W => by
    rw [packW, packW_len r, List.length_set]
theorem packW_bit : ∀ (l : List (Fld × Nat)) (W : List Nat) (j t : Nat), (∀ p ∈ l, p.1.word < W.length) →
    ((wd (packW W l) j).testBit t = true ↔ (wd W j).testBit t = true ∨ ∃ p ∈ l, p.1.word = j ∧ p.1.bit ≤ t ∧ p.2.testBit (t - p.1.bit) = true)
  | [], W, j, t, _ => by simp [packW]
  | (f, x) :: r, W, j, t, h => by
    have hf : f.word < W.length := h (f, x) (by simp)
    rw [packW, packW_bit r _ j t (fun p hp => by rw [List.length_set]; exact h p (by simp [hp])), wd_set _ _ _ _ hf]
    constructor
    · rintro (h1 | ⟨p, hp, h1⟩)
      · split at h1
        · rename_i e
          subst e
          rw [Nat.testBit_or, Bool.or_eq_true, Nat.testBit_shiftLeft, Bool.and_eq_true, decide_eq_true_eq] at h1
          rcases h1 with h1 | h1
          · exact .inl h1
          · exact .inr ⟨(f, x), by simp, rfl, h1.1, h1.2⟩
        · exact .inl h1
      · exact .inr ⟨p, by simp [hp], h1⟩
    · rintro (h1 | ⟨p, hp, h1, h2, h3⟩)
      · refine .inl ?_
        split
        · rename_i e
          subst e
          rw [Nat.testBit_or, h1, Bool.true_or]
        · exact h1
      · rcases List.mem_cons.1 hp with rfl | hp
        · refine .inl ?_
          rw [if_pos h1, Nat.testBit_or, Nat.testBit_shiftLeft, decide_eq_true h2, h3]
          simp
        · exact .inr ⟨p, hp, h1, h2, h3⟩
/-- The bits of a field. -/
def maskF (f : Fld) : Nat := (1 <<< f.width - 1) <<< f.bit
theorem mask_bit (f : Fld) (t : Nat) : (maskF f).testBit t = (decide (f.bit ≤ t) && decide (t - f.bit < f.width)) := by
  unfold maskF
  rw [Nat.testBit_shiftLeft, Nat.one_shiftLeft, Nat.testBit_two_pow_sub_one]
/-- The value in a field. -/
def getF (w : Nat) (f : Fld) : Nat := (w &&& maskF f) >>> f.bit
theorem get_bit (w : Nat) (f : Fld) (u : Nat) : (getF w f).testBit u = (w.testBit (u + f.bit) && decide (u < f.width)) := by
  unfold getF
  rw [Nat.testBit_shiftRight, Nat.testBit_and, mask_bit, Nat.add_comm f.bit u, decide_eq_true (Nat.le_add_left _ _), Nat.add_sub_cancel, Bool.true_and]
theorem bit_lt {x n u : Nat} (h : x < 2 ^ n) (hu : x.testBit u = true) : u < n := by
  rcases Nat.lt_or_ge u n with h1 | h1
  · exact h1
  · rw [Nat.testBit_lt_two_pow (Nat.lt_of_lt_of_le h (Nat.pow_le_pow_right (by omega) h1))] at hu
    cases hu
def zw (n : Nat) : List Nat := List.replicate n 0
theorem wd_zw (n j : Nat) : wd (zw n) j = 0 := by
  unfold wd zw
  simp [List.getD, List.getElem?_replicate]
  split <;> rfl
/-- What was laid is found again. -/
theorem get_pack {l : List (Fld × Nat)} {n : Nat} (hl : l.Pairwise fun p q => FAhead p.1 q.1) (hw : ∀ p ∈ l, p.1.word < n) (hx : ∀ p ∈ l, p.2 < 2 ^ p.1.width) {p : Fld × Nat} (hp : p ∈ l) : getF (wd (packW (zw n) l) p.1.word) p.1 = p.2 := by
  have hun : ∀ q ∈ l, ∀ t, q.1.word = p.1.word → q.1.bit ≤ t → q.2.testBit (t - q.1.bit) = true → p.1.bit ≤ t → t < p.1.bit + p.1.width → q = p := by
    intro q hq t h1 h2 h3 h4 h5
    have h6 := bit_lt (hx q hq) h3
    obtain ⟨i, hi, rfl⟩ := List.getElem_of_mem hp
    obtain ⟨j, hj, rfl⟩ := List.getElem_of_mem hq
    rw [List.pairwise_iff_getElem] at hl
    rcases Nat.lt_trichotomy i j with h7 | h7 | h7
    · have := hl i j hi hj h7
      unfold FAhead at this
      omega
    · subst h7; rfl
    · have := hl j i hj hi h7
      unfold FAhead at this
      omega
  apply Nat.eq_of_testBit_eq
  intro u
  rw [get_bit]
  apply Bool.eq_iff_iff.2
  rw [Bool.and_eq_true, decide_eq_true_eq, packW_bit l (zw n) _ _ (by intro q hq; rw [show (zw n).length = n from List.length_replicate ..]; exact hw q hq), wd_zw]
  constructor
  · rintro ⟨h1 | ⟨q, hq, h1, h2, h3⟩, h4⟩
    · rw [Nat.zero_testBit] at h1; cases h1
    · have := hun q hq (u + p.1.bit) h1 h2 h3 (by omega) (by omega)
      subst this
      rw [Nat.add_sub_cancel] at h3
      exact h3
  · intro h1
    have h2 := bit_lt (hx p hp) h1
    exact ⟨.inr ⟨p, hp, rfl, by omega, by rw [Nat.add_sub_cancel]; exact h1⟩, h2⟩
/-- Fields cleared. -/
def clrB (w m t : Nat) : Bool := w.testBit t && !m.testBit t
theorem pack_lt {l : List (Fld × Nat)} {n j : Nat} (hw : ∀ p ∈ l, p.1.word < n ∧ p.1.bit + p.1.width ≤ 64) (hx : ∀ p ∈ l, p.2 < 2 ^ p.1.width) : wd (packW (zw n) l) j < 2 ^ 64 := by
  apply Nat.lt_pow_two_of_testBit
  intro t ht
  apply Bool.eq_false_iff.2
  intro h
  rw [packW_bit l (zw n) _ _ (by intro q hq; rw [show (zw n).length = n from List.length_replicate ..]; exact (hw q hq).1), wd_zw, Nat.zero_testBit] at h
  rcases h with h | ⟨p, hp, h1, h2, h3⟩
  · cases h
  · have := bit_lt (hx p hp) h3
    have := (hw p hp).2
    omega
end Go.Proofs.YtpobnjbpglaohaaGreat
