/- pack: words cleared field by field (plain); rows. -/
import Derived.Test.YtpobnjbpglaohaaGreatWpF
namespace Go.Proofs.YtpobnjbpglaohaaGreat
set_option linter.unusedSimpArgs false
set_option linter.unusedVariables false
open Go Go.RowKit
set_option linter.unusedVariables false

/-- The words with fields cleared. -/
def clrW : List Nat → List Fld → List Nat
  | W, [] => W
  | W, f :: r => clrW (W.set f.word (wd W f.word &&& (18446744073709551615 - maskF f))) r
theorem clrW_len : ∀ (l : List Fld) (W : List Nat), (clrW W l).length = W.length
  | [], W => rfl
  | f :: r, W => by rw [clrW, clrW_len r, List.length_set]
theorem clrW_app : ∀ (l : List Fld) (W : List Nat) (f : Fld), clrW W (l ++ [f]) = (clrW W l).set f.word (wd (clrW W l) f.word &&& (18446744073709551615 - maskF f))
  | [], W, f => rfl
  | g :: r, W, f => by rw [List.cons_append, clrW, clrW_app r, clrW]
theorem clrW_le : ∀ (l : List Fld) (W : List Nat) (j : Nat), (∀ f ∈ l, f.word < W.length) → wd (clrW W l) j ≤ wd W j
  | [], W, j, _ => Nat.le_refl _
  | f :: r, W, j, h => by
    rw [clrW]
    refine Nat.le_trans (clrW_le r _ j (fun g hg => by rw [List.length_set]; exact h g (by simp [hg]))) ?_
    rw [wd_set _ _ _ _ (h f (by simp))]
    split
    · rename_i e; subst e; exact Nat.and_le_left
    · exact Nat.le_refl _
theorem clrW_bit : ∀ (l : List Fld) (W : List Nat) (j t : Nat), (∀ f ∈ l, f.word < W.length ∧ FldOk f) → (wd (clrW W l) j).testBit t = true → (wd W j).testBit t = true ∧ ∀ f ∈ l, f.word = j → ¬ (f.bit ≤ t ∧ t < f.bit + f.width)
  | [], W, j, t, _, h => ⟨h, fun f hf => nomatch hf⟩
  | f :: r, W, j, t, h, hb => by
    obtain ⟨hf1, hf2⟩ := h f (by simp)
    rw [clrW] at hb
    obtain ⟨h1, h2⟩ := clrW_bit r _ j t (fun g hg => by rw [List.length_set]; exact h g (by simp [hg])) hb
    rw [wd_set _ _ _ _ hf1] at h1
    split at h1
    · rename_i e
      rw [Nat.testBit_and, Bool.and_eq_true] at h1
      refine ⟨by rw [← e]; exact h1.1, fun g hg hgj => ?_⟩
      rcases List.mem_cons.1 hg with rfl | hg
      · intro ht
        have h3 := h1.2
        rw [show 18446744073709551615 - maskF g = 2 ^ 64 - (maskF g + 1) by omega, Nat.testBit_two_pow_sub_succ (mask_lt hf2), mask_bit, decide_eq_true ht.1, decide_eq_true (show t - g.bit < g.width by omega)] at h3
        simp at h3
      · exact h2 g hg hgj
    · rename_i e
      refine ⟨h1, fun g hg hgj => ?_⟩
      rcases List.mem_cons.1 hg with rfl | hg
      · exact absurd hgj e
      · exact h2 g hg hgj
theorem fok_fld {F : List Fld} {n : Nat} (hF : FOk F n) {f : Fld} (h : f ∈ F) : FldOk f := ⟨(hF.ok f h).2.1, (hF.ok f h).2.2.2⟩
theorem wds_len (F : List Fld) (n : Nat) (s : List Int) : (wdsOf F n s).length = n := by
  unfold wdsOf
  rw [packW_len]
  exact List.length_replicate ..
theorem zip_ok {F : List Fld} {n : Nat} {s : List Int} (hF : FOk F n) (hs : StOk F s) : ∀ p ∈ F.zip (natL s), (p.1.word < n ∧ p.1.bit + p.1.width ≤ 64) ∧ p.2 < 2 ^ p.1.width := by
  rw [← zipL_all hs.1]
  exact zipL_ok hF hs _
theorem wds_lt {F : List Fld} {n : Nat} {s : List Int} (hF : FOk F n) (hs : StOk F s) (j : Nat) : wd (wdsOf F n s) j < 18446744073709551616 :=
  pack_lt (fun p hp => (zip_ok hF hs p hp).1) (fun p hp => (zip_ok hF hs p hp).2)
/-- Nothing is left. -/
theorem clr_all {F : List Fld} {n : Nat} {s : List Int} (hF : FOk F n) (hs : StOk F s) (j : Nat) : wd (clrW (wdsOf F n s) F) j = 0 := by
  apply Nat.eq_of_testBit_eq
  intro t
  rw [Nat.zero_testBit]
  apply Bool.eq_false_iff.2
  intro h
  obtain ⟨h1, h2⟩ := clrW_bit F _ j t (fun f hf => ⟨by rw [wds_len]; exact (hF.ok f hf).1, fok_fld hF hf⟩) h
  unfold wdsOf at h1
  rw [packW_bit _ (zw n) _ _ (by intro q hq; rw [show (zw n).length = n from List.length_replicate ..]; exact (zip_ok hF hs q hq).1.1), wd_zw, Nat.zero_testBit] at h1
  rcases h1 with h1 | ⟨p, hp, h3, h4, h5⟩
  · cases h1
  · have h6 := bit_lt (zip_ok hF hs p hp).2 h5
    exact h2 p.1 (List.of_mem_zip hp).1 h3 ⟨h4, by omega⟩
theorem zip_pair {F : List Fld} {s : List Int} (h : F.Pairwise FAhead) : ∀ (l : List Nat), (F.zip l).Pairwise fun p q => FAhead p.1 q.1 := by
  induction h with
  | nil => intro l; simp
  | cons h1 h2 ih =>
    intro l
    cases l with
    | nil => simp
    | cons a l =>
      rw [List.zip_cons_cons]
      exact List.Pairwise.cons (fun q hq => h1 q.1 (List.of_mem_zip hq).1) (ih l)
/-- What was packed is found. -/
theorem get_wds {F : List Fld} {n : Nat} {s : List Int} (hF : FOk F n) (hs : StOk F s) {j : Nat} (hj : j < F.length) : ((getF (wd (wdsOf F n s) (fld F j).word) (fld F j) : Nat) : Int) = nth s j := by
  have hg := zip_get hs.1 hj
  have hm : (fld F j, (nth s j).toNat) ∈ F.zip (natL s) := List.mem_of_getElem? hg
  have := get_pack (zip_pair (s := s) hF.apart (natL s)) (fun p hp => (zip_ok hF hs p hp).1.1) (fun p hp => (zip_ok hF hs p hp).2) hm
  unfold wdsOf
  rw [this]
  have := (hs.2 j hj).1
  dsimp only
  omega
/-- The words tell the state. -/
theorem wds_inj {F : List Fld} {n : Nat} {s s' : List Int} (hF : FOk F n) (hs : StOk F s) (hs' : StOk F s') (h : wdsOf F n s = wdsOf F n s') : s = s' := by
  apply List.ext_getElem (by rw [hs.1, hs'.1])
  intro i h1 h2
  have hi : i < F.length := by rw [← hs.1]; exact h1
  have a := get_wds hF hs hi
  have b := get_wds hF hs' hi
  rw [h, b] at a
  unfold nth at a
  simpa [List.getD, h1, h2] using a.symm
/-- A stored element of a row. -/
theorem own_setAt2 {w : World} {B n cap g i s : Nat} {e : TypeId} {xs : List Value} (h : w.ownsRow B e s (.slice (some ⟨g, 0, none⟩) n cap) n xs) (u : Value) :
    (w.setCell ⟨g, i, none⟩ u).ownsRow B e s (.slice (some ⟨g, 0, none⟩) n cap) n (xs.set i u) := by
  rcases h.2 with ⟨h0, _⟩ | ⟨b, cap', cur, h1, hb, hg, hnc, hcm, hcs, htk⟩
  · cases h0
  · injection h1 with h1 h2 h3
    injection h1 with h1
    injection h1 with h1 _ _
    subst h1 h3
    refine ⟨by rw [List.length_set]; exact h.1, .inr ⟨g, cap, cur.setIfInBounds i u, rfl, hb, ?_, hnc, hcm, by simpa using hcs, ?_⟩⟩
    · simp [World.setCell, Array.getElem?_modify, hg]
    · rw [Array.toList_setIfInBounds, List.take_set, htk]
end Go.Proofs.YtpobnjbpglaohaaGreat
