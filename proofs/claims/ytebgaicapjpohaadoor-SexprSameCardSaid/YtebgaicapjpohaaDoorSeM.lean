/- Expressions in memory. -/
import Derived.Test.YtebgaicapjpohaaDoorSeK
namespace Go.Proofs.YtebgaicapjpohaaDoor
set_option linter.unusedSimpArgs false
set_option linter.unusedVariables false
open Go Go.RowKit
set_option linter.unusedVariables false

mutual
/-- The six cells of an expression whose parts lie at good places. -/
def SxIs (w : World) (bad : Nat → Prop) (vs : List Value) : Sx → Prop
  | .mk k v l c t kids => ∃ A cap, vs = [.int .i64 k, .int .i64 v, .int .i64 l, .int .i64 c, .string (bs t), .slice A kids.length cap] ∧ (A = none → cap = 0) ∧ kids.length ≤ cap ∧ RowAt w bad A 0 kids
/-- The elements from the i-th on of a row of expressions. -/
def RowAt (w : World) (bad : Nat → Prop) (A : Option Addr) (i : Nat) : List Sx → Prop
  | [] => True
  | x :: r => (∃ b off vs, A = some ⟨b, off, none⟩ ∧ b < w.heap.size ∧ ¬ bad b ∧ SxIs w bad vs x ∧ ∀ j, j < 6 → w.cell? ⟨b, off + i * 6 + j, none⟩ = vs[j]?) ∧ RowAt w bad A (i + 1) r
end
section
variable {w w' : World} {bad bad' : Nat → Prop}
mutual
theorem SxIs.move (m : Moves w w' bad bad') : ∀ (x : Sx) (vs : List Value), SxIs w bad vs x → SxIs w' bad' vs x
  | .mk k v l c t kids, vs, h => by
    unfold SxIs at h ⊢
    obtain ⟨A, cap, h1, h2, h3, h4⟩ := h
    exact ⟨A, cap, h1, h2, h3, RowAt.move m kids A 0 h4⟩
theorem RowAt.move (m : Moves w w' bad bad') : ∀ (l : List Sx) (A : Option Addr) (i : Nat), RowAt w bad A i l → RowAt w' bad' A i l
  | [], A, i, _ => by unfold RowAt; trivial
  | x :: r, A, i, h => by
    unfold RowAt at h ⊢
    obtain ⟨⟨b, off, vs, h1, h2, h3, h4, h5⟩, h6⟩ := h
    exact ⟨⟨b, off, vs, h1, Nat.lt_of_lt_of_le h2 m.size, fun h => h3 (m.bad b h2 h), SxIs.move m x vs h4, fun j hj => (m.cell (p := ⟨b, _, none⟩) h2 h3).trans (h5 j hj)⟩, RowAt.move m r A (i + 1) h6⟩
end
theorem RowAt.get : ∀ (l : List Sx) (A : Option Addr) (i k : Nat), RowAt w bad A i l → k < l.length →
    ∃ b off vs, A = some ⟨b, off, none⟩ ∧ b < w.heap.size ∧ ¬ bad b ∧ SxIs w bad vs (sx l k) ∧ ∀ j, j < 6 → w.cell? ⟨b, off + (i + k) * 6 + j, none⟩ = vs[j]?
  | [], A, i, k, _, hk => absurd hk (by simp)
  | x :: r, A, i, 0, h, hk => by
    unfold RowAt at h
    exact h.1
  | x :: r, A, i, k + 1, h, hk => by
    unfold RowAt at h
    obtain ⟨b, off, vs, h1, h2, h3, h4, h5⟩ := RowAt.get r A (i + 1) k h.2 (by simpa using hk)
    refine ⟨b, off, vs, h1, h2, h3, h4, fun j hj => ?_⟩
    rw [show i + (k + 1) = i + 1 + k by omega]
    exact h5 j hj
/-- The cells of a growing row of expressions. -/
def KidsIs (w : World) (bad : Nat → Prop) : List Value → List Sx → Prop
  | xs, [] => xs = []
  | xs, x :: r => ∃ vs ys, xs = vs ++ ys ∧ vs.length = 6 ∧ SxIs w bad vs x ∧ KidsIs w bad ys r
theorem SxIs.six {vs : List Value} {x : Sx} (h : SxIs w bad vs x) : vs.length = 6 := by
  cases x with
  | mk k v l c t kids =>
    unfold SxIs at h
    obtain ⟨A, cap, h1, _⟩ := h
    rw [h1]; rfl
theorem KidsIs.len : ∀ (l : List Sx) (xs : List Value), KidsIs w bad xs l → xs.length = l.length * 6
  | [], xs, h => by unfold KidsIs at h; subst h; rfl
  | x :: r, xs, h => by
    unfold KidsIs at h
    obtain ⟨vs, ys, rfl, h2, h3, h4⟩ := h
    rw [List.length_append, h2, KidsIs.len r ys h4, List.length_cons]
    omega
theorem KidsIs.move (m : Moves w w' bad bad') : ∀ (l : List Sx) (xs : List Value), KidsIs w bad xs l → KidsIs w' bad' xs l
  | [], xs, h => h
  | x :: r, xs, h => by
    unfold KidsIs at h ⊢
    obtain ⟨vs, ys, h1, h2, h3, h4⟩ := h
    exact ⟨vs, ys, h1, h2, h3.move m x vs, KidsIs.move m r ys h4⟩
theorem KidsIs.push {vs : List Value} {x : Sx} (hx : SxIs w bad vs x) : ∀ (l : List Sx) (xs : List Value), KidsIs w bad xs l → KidsIs w bad (xs ++ vs) (l ++ [x])
  | [], xs, h => by
    unfold KidsIs at h
    subst h
    exact ⟨vs, [], by simp, hx.six, hx, rfl⟩
  | y :: r, xs, h => by
    unfold KidsIs at h
    obtain ⟨us, ys, rfl, h2, h3, h4⟩ := h
    exact ⟨us, ys ++ vs, by rw [List.append_assoc], h2, h3, KidsIs.push hx r ys h4⟩
/-- A row whose cells are such. -/
theorem KidsIs.at_ {g off : Nat} (hg : g < w.heap.size) (hb : ¬ bad g) : ∀ (l : List Sx) (xs : List Value) (i : Nat), KidsIs w bad xs l → (∀ j, j < xs.length → w.cell? ⟨g, off + i * 6 + j, none⟩ = xs[j]?) → RowAt w bad (some ⟨g, off, none⟩) i l
  | [], xs, i, _, _ => by unfold RowAt; trivial
  | x :: r, xs, i, h, hc => by
    unfold KidsIs at h
    obtain ⟨vs, ys, rfl, h2, h3, h4⟩ := h
    unfold RowAt
    refine ⟨⟨g, off, vs, rfl, hg, hb, h3, fun j hj => ?_⟩, KidsIs.at_ hg hb r ys (i + 1) h4 fun j hj => ?_⟩
    · rw [hc j (by simp; omega), List.getElem?_append_left (by omega)]
    · have := hc (6 + j) (by simp; omega)
      rw [List.getElem?_append_right (by omega), h2, show 6 + j - 6 = j by omega] at this
      rw [← this, show off + (i + 1) * 6 + j = off + i * 6 + (6 + j) by omega]
end
end Go.Proofs.YtebgaicapjpohaaDoor
