/- Expressions compared; plain. -/
import Derived.Test.YtebgaicapjpohaaDoorSeM
namespace Go.Proofs.YtebgaicapjpohaaDoor
set_option linter.unusedSimpArgs false
set_option linter.unusedVariables false
open Go Go.RowKit
set_option linter.unusedVariables false

mutual
def sameX : Sx → Sx → Bool
  | .mk k v _ _ t ks, .mk k' v' _ _ t' ks' => decide (k = k') && decide (v = v') && decide (t = t') && decide (ks.length = ks'.length) && sameL ks ks'
def sameL : List Sx → List Sx → Bool
  | [], _ => true
  | _ :: _, [] => true
  | a :: r, b :: q => sameX a b && sameL r q
end
mutual
/-- No row is longer than a machine holds. -/
def sxB : Sx → Prop
  | .mk _ _ _ _ _ ks => ks.length ≤ 140737488351232 ∧ sxBL ks
def sxBL : List Sx → Prop
  | [] => True
  | x :: r => sxB x ∧ sxBL r
end
theorem sxBL_get : ∀ (l : List Sx) (j : Nat), sxBL l → j < l.length → sxB (sx l j)
  | x :: r, 0, h, _ => by unfold sxBL at h; exact h.1
  | x :: r, j + 1, h, hj => by unfold sxBL at h; exact sxBL_get r j h.2 (by simpa using hj)
theorem sxBL_of : ∀ (l : List Sx), (∀ j, j < l.length → sxB (sx l j)) → sxBL l
  | [], _ => by unfold sxBL; trivial
  | x :: r, h => by
    unfold sxBL
    exact ⟨h 0 (by simp), sxBL_of r fun j hj => h (j + 1) (by simpa using hj)⟩
mutual
/-- How many expressions there are in one. -/
def sxN : Sx → Nat
  | .mk _ _ _ _ _ ks => 1 + sxNL ks
def sxNL : List Sx → Nat
  | [] => 0
  | x :: r => sxN x + sxNL r
end
theorem sx_size : ∀ (l : List Sx) (j : Nat), j < l.length → sxN (sx l j) ≤ sxNL l
  | x :: r, 0, _ => by
    unfold sxNL
    exact Nat.le_add_right _ _
  | x :: r, j + 1, h => by
    have := sx_size r j (by simpa using h)
    unfold sxNL
    exact Nat.le_trans this (Nat.le_add_left _ _)
theorem sx_size2 {k v l c : Int} {t : List UInt8} {ks : List Sx} {N : Nat} (h : sxN (Sx.mk k v l c t ks) < N + 1) : ∀ j, j < ks.length → sxN (sx ks j) < N := fun j hj => by
  have h1 := sx_size ks j hj
  unfold sxN at h
  omega
theorem sameL_all : ∀ (a b : List Sx), a.length = b.length → (∀ j, j < a.length → sameX (sx a j) (sx b j) = true) → sameL a b = true
  | [], _, _, _ => by unfold sameL; rfl
  | x :: r, [], h, _ => by cases h
  | x :: r, y :: q, h, hj => by
    unfold sameL
    rw [show sameX x y = true from hj 0 (by simp), sameL_all r q (by simpa using h) (fun j h2 => hj (j + 1) (by simpa using h2))]
    rfl
theorem sameL_stop : ∀ (a b : List Sx) (j : Nat), a.length = b.length → j < a.length → sameX (sx a j) (sx b j) = false → sameL a b = false
  | x :: r, [], _, h, _, _ => by cases h
  | x :: r, y :: q, 0, h, _, hj => by
    unfold sameL
    rw [show sameX x y = false from hj]
    rfl
  | x :: r, y :: q, j + 1, h, hl, hj => by
    unfold sameL
    rw [sameL_stop r q j (by simpa using h) (by simpa using hl) hj, Bool.and_false]
mutual
theorem sameX_refl : ∀ (k v l c l' c' : Int) (t : List UInt8) (ks : List Sx), sameX (.mk k v l c t ks) (.mk k v l' c' t ks) = true
  | k, v, l, c, l', c', t, ks => by
    unfold sameX
    rw [sameL_refl ks]
    simp
theorem sameL_refl : ∀ (l : List Sx), sameL l l = true
  | [] => by unfold sameL; rfl
  | .mk k v l c t ks :: r => by
    unfold sameL
    rw [sameX_refl k v l c l c t ks, sameL_refl r]
    rfl
end
mutual
theorem sameX_comm : ∀ (a b : Sx), sameX a b = sameX b a
  | .mk k v l c t ks, .mk k' v' l' c' t' ks' => by
    unfold sameX
    rw [sameL_comm ks ks', show decide (k = k') = decide (k' = k) from decide_eq_decide.2 eq_comm, show decide (v = v') = decide (v' = v) from decide_eq_decide.2 eq_comm, show decide (t = t') = decide (t' = t) from decide_eq_decide.2 eq_comm, show decide (ks.length = ks'.length) = decide (ks'.length = ks.length) from decide_eq_decide.2 eq_comm]
theorem sameL_comm : ∀ (a b : List Sx), sameL a b = sameL b a
  | [], [] => rfl
  | [], y :: q => by unfold sameL; rfl
  | x :: r, [] => by unfold sameL; rfl
  | x :: r, y :: q => by
    unfold sameL
    rw [sameX_comm x y, sameL_comm r q]
end
/-- A row of expressions out of its elements. -/
theorem RowAt.of_get {w : World} {bad : Nat → Prop} {A : Option Addr} : ∀ (l : List Sx) (i : Nat), (∀ k, k < l.length → ∃ b off vs, A = some ⟨b, off, none⟩ ∧ b < w.heap.size ∧ ¬ bad b ∧ SxIs w bad vs (sx l k) ∧ ∀ j, j < 6 → w.cell? ⟨b, off + (i + k) * 6 + j, none⟩ = vs[j]?) → RowAt w bad A i l
  | [], i, _ => by unfold RowAt; trivial
  | x :: r, i, h => by
    unfold RowAt
    refine ⟨h 0 (by simp), RowAt.of_get r (i + 1) fun k hk => ?_⟩
    obtain ⟨b, off, vs, h1, h2, h3, h4, h5⟩ := h (k + 1) (by simpa using hk)
    exact ⟨b, off, vs, h1, h2, h3, h4, fun j hj => by rw [show i + 1 + k = i + (k + 1) by omega]; exact h5 j hj⟩
end Go.Proofs.YtebgaicapjpohaaDoor
