/- The law CausalConnected: its box and bits. -/
import Derived.Test.YtdkighaddldmcaaConB
import Derived.Test.YtdkighaddldmcaaConV
import Derived.Test.YtdkighaddldmcaaConA
import Derived.Test.YtdkighaddldmcaaCauW
import Derived.Test.YtdkighaddldmcaaKb
namespace Go.Proofs.Ytdkighaddldmcaa
set_option linter.unusedSimpArgs false
set_option linter.unusedVariables false
open Go Go.RowKit
set_option linter.unusedVariables false

theorem infoS3 : (Try.prog.info? 22).map (fun i => (i.zero, i.size, i.bytes)) = some (some (.slice none 0 0), 1, 24) := by kernel_rfl
theorem infoI3 : (Try.prog.info? 3).map (fun i => (i.zero, i.size, i.bytes)) = some (some (.int .i64 0), 1, 8) := by kernel_rfl

/-- A box of three cells. -/
structure Box3 (w : World) (b : Nat) (v0 v1 v2 : Value) : Prop where
  lt : b < w.heap.size
  c0 : w.cell? ⟨b, 0, none⟩ = some v0
  c1 : w.cell? ⟨b, 1, none⟩ = some v1
  c2 : w.cell? ⟨b, 2, none⟩ = some v2
  fz : ∀ k, w.frozen? ⟨b, k, none⟩ = false
section
variable {w w' : World} {b : Nat} {v0 v1 v2 : Value}
theorem Box3.of_block (h : Box3 w b v0 v1 v2) (hs : w.heap.size ≤ w'.heap.size) (hb : w'.heap[b]? = w.heap[b]?) : Box3 w' b v0 v1 v2 :=
  have e : ∀ k, w'.cell? ⟨b, k, none⟩ = w.cell? ⟨b, k, none⟩ := fun k => World.cell?_of_block (w := w) (a := ⟨b, k, none⟩) hb
  ⟨Nat.lt_of_lt_of_le h.lt hs, (e 0).trans h.c0, (e 1).trans h.c1, (e 2).trans h.c2, fun k => (World.frozen?_of_block (w := w) (a := ⟨b, k, none⟩) hb).trans (h.fz k)⟩
theorem Box3.up (h : Box3 w b v0 v1 v2) (k : Below w.heap.size w w') : Box3 w' b v0 v1 v2 := h.of_block k.size (k.block b h.lt)
theorem Box3.low {B : Nat} (h : Box3 w b v0 v1 v2) (k : Below B w w') (hb : b < B) : Box3 w' b v0 v1 v2 := h.of_block k.size (k.block b hb)
theorem Box3.alloc (h : Box3 w b v0 v1 v2) (o : Obj) : Box3 (w.alloc o) b v0 v1 v2 := h.up ((Below.refl _ _).alloc (Nat.le_refl _) _)
theorem Box3.new (w : World) (T : TypeId) (v0 v1 v2 : Value) : Box3 (w.alloc (.cells #[v0, v1, v2] T)) w.heap.size v0 v1 v2 :=
  ⟨by simp, by simp, by simp, by simp, fun k => by simp⟩
theorem Box3.set0 (h : Box3 w b v0 v1 v2) (u : Value) : Box3 (w.setCell ⟨b, 0, none⟩ u) b u v1 v2 :=
  ⟨by simpa [World.setCell] using h.lt, World.cell?_setCell_same' _ _ _ (by rw [h.c0]; rfl), (set_oth _ _ _ _ _ (by decide)).trans h.c1, (set_oth _ _ _ _ _ (by decide)).trans h.c2, fun k => (set_frz _ _ _ _ _).trans (h.fz k)⟩
theorem Box3.set1 (h : Box3 w b v0 v1 v2) (u : Value) : Box3 (w.setCell ⟨b, 1, none⟩ u) b v0 u v2 :=
  ⟨by simpa [World.setCell] using h.lt, (set_oth _ _ _ _ _ (by decide)).trans h.c0, World.cell?_setCell_same' _ _ _ (by rw [h.c1]; rfl), (set_oth _ _ _ _ _ (by decide)).trans h.c2, fun k => (set_frz _ _ _ _ _).trans (h.fz k)⟩
theorem Box3.set2 (h : Box3 w b v0 v1 v2) (u : Value) : Box3 (w.setCell ⟨b, 2, none⟩ u) b v0 v1 u :=
  ⟨by simpa [World.setCell] using h.lt, (set_oth _ _ _ _ _ (by decide)).trans h.c0, (set_oth _ _ _ _ _ (by decide)).trans h.c1, World.cell?_setCell_same' _ _ _ (by rw [h.c2]; rfl), fun k => (set_frz _ _ _ _ _).trans (h.fz k)⟩
end
def orv (a b : Int) : Int := (bits BinOp.or IntKind.u8 a b)
theorem bitL_no {f : Nat → Bool} {k : Nat} (h : f k = false) : bitL f (k + 1) = bitL f k := by show (if f k then _ else _) = _; rw [h]; rfl
theorem bitL_yes {f : Nat → Bool} {k : Nat} (h : f k = true) : bitL f (k + 1) = bitL f k ++ [(k : Int)] := by show (if f k then _ else _) = _; rw [h]; rfl

end Go.Proofs.Ytdkighaddldmcaa
