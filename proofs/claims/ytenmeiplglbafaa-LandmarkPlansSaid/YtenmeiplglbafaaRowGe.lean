/- A row of the call's own of which the first n cells are known. -/
import Derived.Test.YtenmeiplglbafaaOwn
namespace Go.Proofs.Ytenmeiplglbafaa
set_option linter.unusedSimpArgs false
set_option linter.unusedVariables false
open Go Go.RowKit
set_option linter.unusedVariables false

/-- Block b is a row of elements of one cell, type t; the first n cells hold f. -/
def rowGe (w : World) (b : Nat) (t : TypeId) (n : Nat) (f : Nat → Value) : Prop :=
  ∃ c : Array Value, w.heap[b]? = some (.cells c t (0, 0)) ∧ n ≤ c.size ∧ ∀ i, i < n → c[i]? = some (f i)
section
variable {w w' : World} {b : Nat} {t : TypeId} {n : Nat} {f g : Nat → Value}
theorem rowGe.cell (h : rowGe w b t n f) {i : Nat} (hi : i < n) : w.cell? ⟨b, i, none⟩ = some (f i) := by
  obtain ⟨c, hb, _, hc⟩ := h
  simp [World.cell?, hb, hc i hi]
theorem rowGe.frozen (h : rowGe w b t n f) (i : Nat) : w.frozen? ⟨b, i, none⟩ = false := by
  obtain ⟨c, hb, _, _⟩ := h
  simp [World.frozen?, hb]
theorem rowGe.lt (h : rowGe w b t n f) : b < w.heap.size := by
  obtain ⟨c, hb, _, _⟩ := h
  exact (Array.getElem?_eq_some_iff.1 hb).1
theorem rowGe.congr (h : rowGe w b t n f) (e : ∀ i, i < n → f i = g i) : rowGe w b t n g := by
  obtain ⟨c, hb, hn, hc⟩ := h
  exact ⟨c, hb, hn, fun i hi => by rw [hc i hi, e i hi]⟩
theorem rowGe.of_block (h : rowGe w b t n f) (e : w'.heap[b]? = w.heap[b]?) : rowGe w' b t n f := by
  obtain ⟨c, hb, hn, hc⟩ := h
  exact ⟨c, e.trans hb, hn, hc⟩
theorem rowGe.set (h : rowGe w b t n f) (i : Nat) (v : Value) : rowGe (w.setCell ⟨b, i, none⟩ v) b t n (fun j => if j = i then v else f j) := by
  obtain ⟨c, hb, hn, hc⟩ := h
  refine ⟨c.setIfInBounds i v, ?_, by simpa using hn, fun j hj => ?_⟩
  · simp [World.setCell, Array.getElem?_modify, hb]
  · rw [Array.getElem?_setIfInBounds]
    by_cases e : j = i
    · subst e
      simp; omega
    · rw [if_neg (fun h => e h.symm)]
      show c[j]? = some (if j = i then v else f j)
      rw [if_neg e]
      exact hc j hj
theorem rowGe.up (h : rowGe w b t n f) (hb : Below w.heap.size w w') : rowGe w' b t n f := h.of_block (hb.block b h.lt)
theorem rowGe.alloc (h : rowGe w b t n f) (o : Obj) : rowGe (w.alloc o) b t n f := h.up ((Below.refl _ _).alloc (Nat.le_refl _) _)
theorem rowGe.grown {row : Option Nat} (h : rowGe w b t n f) (hg : w.grownBy w' row) (hr : some b ≠ row) : rowGe w' b t n f := h.of_block (hg.block b h.lt hr)
theorem rowGe.ne {B : Nat} {e : TypeId} {s m : Nat} {v : Value} {xs : List Value} (hr : rowGe w b t n f) (h : w.ownsRow B e s v m xs) (hne : t ≠ e) : some b ≠ v.ownBlock := by
  obtain ⟨c, hb, _⟩ := hr
  rcases h.2 with ⟨rfl, _⟩ | ⟨g, cap, cur, rfl, _, hg, _⟩
  · simp [Value.ownBlock]
  · intro he
    have : g = b := by simpa [Value.ownBlock] using he.symm
    subst this
    rw [hb] at hg
    injection hg with hg
    injection hg with _ ht
    exact hne ht
theorem own_mono2 {B B' : Nat} {e : TypeId} {s m : Nat} {v : Value} {xs : List Value} (h : w.ownsRow B e s v m xs) (hb : B' ≤ B) : w.ownsRow B' e s v m xs :=
  ⟨h.1, h.2.imp id fun ⟨g, cap, cur, h1, h2, h3⟩ => ⟨g, cap, cur, h1, Nat.le_trans hb h2, h3⟩⟩
/-- An own row of elements of one cell: its address, and what its cells are. -/
theorem rowGe_own {B : Nat} {v : Value} {xs : List Value} (h : w.ownsRow B t 1 v n xs) (f : Nat → Value) (hf : ∀ i, i < n → xs[i]? = some (f i)) : ∃ A c, v = .slice A n c ∧ (0 < n → ∃ g, A = some ⟨g, 0, none⟩ ∧ B ≤ g ∧ rowGe w g t n f) := by
  have hl := h.1
  rcases h.2 with ⟨rfl, h0⟩ | ⟨g, cap, cur, rfl, hb, hg, hnc, hcm, hcs, htk⟩
  · exact ⟨none, 0, by rw [h0], fun hp => absurd hp (by omega)⟩
  · refine ⟨_, cap, rfl, fun _ => ⟨g, rfl, hb, cur, hg, by omega, fun i hi => ?_⟩⟩
    have h1 := hf i hi
    rw [← htk, List.getElem?_take, if_pos (by omega)] at h1
    simpa using h1
end

end Go.Proofs.Ytenmeiplglbafaa
