/- Cells that a call has left, as rules; rows of the call's own: their shape, a store elsewhere. -/
import Derived.Test.YtebgaicapjpohaaDoorOwn
namespace Go.Proofs.YtebgaicapjpohaaDoor
set_option linter.unusedSimpArgs false
set_option linter.unusedVariables false
open Go Go.RowKit
set_option linter.unusedVariables false

theorem own_shape {W : World} {B s n : Nat} {e : TypeId} {v : Value} {xs : List Value} (h : W.ownsRow B e s v n xs) : ∃ A c, v = .slice A n c := by
  rcases h.2 with ⟨rfl, h0⟩ | ⟨b, cap, cur, rfl, hb, hg, hh⟩
  · exact ⟨none, 0, by rw [h0]⟩
  · exact ⟨some ⟨b, 0, none⟩, cap, rfl⟩
theorem own_set {W : World} {B s n : Nat} {e : TypeId} {v u : Value} {xs : List Value} {p : Addr} (h : W.ownsRow B e s v n xs) (hp : p.block < B) : (W.setCell p u).ownsRow B e s v n xs := by
  rcases h.2 with ⟨rfl, h0⟩ | ⟨g, cap, cur, hv, hb, hg, hh⟩
  · exact ⟨h.1, .inl ⟨rfl, h0⟩⟩
  · exact ⟨h.1, .inr ⟨g, cap, cur, hv, hb, (Below.heap_setCell _ _ _ _ (by omega)).trans hg, hh⟩⟩
/-- Rules with 'if' for the walk. -/
theorem cif {B : Nat} {W x : World} (hb : Below B W x) : ∀ b o, x.cell? ⟨b, o, none⟩ = if b < B then W.cell? ⟨b, o, none⟩ else hidC x b o := fun b o => by
  split
  · exact hb.cell (p := ⟨b, o, none⟩) (by assumption)
  · rfl
theorem fif {B : Nat} {W x : World} (hb : Below B W x) : ∀ b o, x.frozen? ⟨b, o, none⟩ = if b < B then W.frozen? ⟨b, o, none⟩ else hidF x b o := fun b o => by
  split
  · exact hb.frozen (p := ⟨b, o, none⟩) (by assumption)
  · rfl

end Go.Proofs.YtebgaicapjpohaaDoor
