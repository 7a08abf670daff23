/- What is kept where the blocks from lo to hi alone are written: a table of the call's own. -/
import Derived.Test.YtlkebhiaimijiaaGreatDoorNgC
namespace Go.Proofs.YtlkebhiaimijiaaGreatDoor
set_option linter.unusedSimpArgs false
set_option linter.unusedVariables false
open Go Go.RowKit
set_option linter.unusedVariables false

structure Kp (lo hi : Nat) (w w' : World) : Prop where
 os : w'.os = w.os
 tape : w'.tape = w.tape
 output : w'.output = w.output
 size : w.heap.size ≤ w'.heap.size
 block : ∀ k, k < w.heap.size → (k < lo ∨ hi ≤ k) → w'.heap[k]? = w.heap[k]?
section
variable {lo hi : Nat} {w w' w'' : World}
theorem Kp.refl (lo hi : Nat) (w : World) : Kp lo hi w w := ⟨rfl, rfl, rfl, Nat.le_refl _, fun _ _ _ => rfl⟩
theorem Kp.trans (h : Kp lo hi w w') (k : Kp lo hi w' w'') : Kp lo hi w w'' :=
 ⟨k.os.trans h.os, k.tape.trans h.tape, k.output.trans h.output, Nat.le_trans h.size k.size, fun i hi ho => (k.block i (Nat.lt_of_lt_of_le hi h.size) ho).trans (h.block i hi ho)⟩
theorem Kp.of_below (h : Below w.heap.size w w') : Kp lo hi w w' := ⟨h.os, h.tape, h.output, h.size, fun k hk _ => h.block k hk⟩
theorem Kp.up (h : Kp lo hi w w') (hb : Below w'.heap.size w' w'') : Kp lo hi w w'' := h.trans (Kp.of_below hb)
theorem Kp.alloc (h : Kp lo hi w w') (o : Obj) : Kp lo hi w (w'.alloc o) := h.up ((Below.refl _ _).alloc (Nat.le_refl _) _)
theorem Kp.drew (h : Kp lo hi w w') : Kp lo hi w w'.drew := h.up (Below.refl _ _).drew
theorem Kp.set (h : Kp lo hi w w') {p : Addr} (h1 : lo ≤ p.block) (h2 : p.block < hi) (u : Value) : Kp lo hi w (w'.setCell p u) :=
 h.trans ⟨rfl, rfl, rfl, by simp [World.setCell], fun k hk ho => Below.heap_setCell _ _ _ _ (by omega)⟩
theorem Kp.cell (h : Kp lo hi w w') {p : Addr} (hp : p.block < w.heap.size) (ho : p.block < lo ∨ hi ≤ p.block) : w'.cell? p = w.cell? p := World.cell?_of_block (w := w) (h.block _ hp ho)
theorem Kp.below {B : Nat} (h : Kp lo hi w w') (hB : B ≤ lo) (hw : B ≤ w.heap.size) : Below B w w' := ⟨h.os, h.tape, h.output, h.size, fun k hk => h.block k (by omega) (.inl (by omega))⟩
end

/-- A table of booleans of n rows that is being made: r rows are there. -/
structure MkM (wr : World) (g n r : Nat) (rb L : Nat → Nat) (M : Nat → Nat → Bool) : Prop where
 top : wr.rowIs g 74 n fun j => if j < r then .slice (some ⟨rb j, 0, none⟩) (L j) (L j) else .slice none 0 0
 row : ∀ j, j < r → wr.rowIs (rb j) 4 (L j) fun c => .bool (M j c)
theorem MkM.start (w : World) (n : Nat) (rb L : Nat → Nat) (M : Nat → Nat → Bool) : MkM (w.alloc (.cells (madeCells #[.slice none 0 0] n) 74)) w.heap.size n 0 rb L M :=
 ⟨(World.rowIs_made w _ n 74).congr fun j _ => by simp, fun j hj => absurd hj (Nat.not_lt_zero _)⟩
/-- A row more: made, and stored. -/
theorem MkM.next {wr : World} {g n r : Nat} {rb L : Nat → Nat} {M : Nat → Nat → Bool} (h : MkM wr g n r rb L M) (hr : r < n) (hb : rb r = wr.heap.size) (hg : ∀ j, j < r → rb j ≠ g) (hM : ∀ c, c < L r → M r c = false) :
  MkM ((wr.setCell ⟨g, r, none⟩ (.slice (some ⟨wr.heap.size, 0, none⟩) (L r) (L r))).alloc (.cells (madeCells #[.bool false] (L r)) 4)) g n (r + 1) rb L M := by
 have hgl := h.top.lt
 have hsz : (wr.setCell ⟨g, r, none⟩ (.slice (some ⟨wr.heap.size, 0, none⟩) (L r) (L r))).heap.size = wr.heap.size := by simp [World.setCell]
 refine ⟨((h.top.set r _).alloc _).congr fun j _ => ?_, fun j hj => ?_⟩
 ·by_cases e : j = r
  ·subst e; simp [hb]
  ·rw [if_neg e]
   by_cases hlt : j < r
   ·rw [if_pos hlt, if_pos (by omega)]
   ·rw [if_neg hlt, if_neg (by omega)]
 ·by_cases e : j = r
  ·subst e
   have h1 := World.rowIs_made (wr.setCell ⟨g, j, none⟩ (.slice (some ⟨wr.heap.size, 0, none⟩) (L j) (L j))) (.bool false) (L j) 4
   rw [hsz] at h1
   rw [hb]
   exact h1.congr fun c hc => by rw [hM c hc]
  ·exact ((h.row j (by omega)).setOther (by show rb j ≠ g; exact hg j (by omega)) _).alloc _
theorem MkM.done {wr : World} {g n : Nat} {rb L : Nat → Nat} {M : Nat → Nat → Bool} (h : MkM wr g n n rb L M) (hi : ∀ i j, i < n → j < n → rb i = rb j → i = j) (hg : ∀ j, j < n → rb j ≠ g) : MatIs wr g n rb L M :=
 ⟨h.top.lt, fun j hj => by have := h.top.cell hj; simpa [hj] using this, h.row, hi, hg⟩
theorem cell_new {wr : World} {p : Addr} {v u : Value} {cs : Array Value} {T : TypeId} {i : Nat} (h : cs[i]? = some u) : ((wr.setCell p v).alloc (.cells cs T)).drew.cell? ⟨wr.heap.size, i, none⟩ = some u := by
 have e : (wr.setCell p v).heap.size = wr.heap.size := by simp [World.setCell]
 have h1 := cell_of_row ((wr.setCell p v).alloc (.cells cs T)) (wr.setCell p v).heap.size i cs T (0, 0) (heap_alloc_new _ _)
 rw [e, h] at h1
 exact h1
/-- What a drawn store to a table leaves of what it has read. -/
theorem Kp.three {lo hi : Nat} {wr : World} {p q r : Addr} {v x y u : Value} {cs : Array Value} {T : TypeId} {i : Nat} (h1 : lo ≤ p.block) (h2 : p.block < hi) (hq : q.block < wr.heap.size) (hq2 : hi ≤ q.block) (hx : wr.cell? q = some x) (hr : r.block < wr.heap.size) (hr2 : r.block < lo) (hy : wr.cell? r = some y) (hu : cs[i]? = some u) :
  ((wr.setCell p v).alloc (.cells cs T)).drew.cell? q = some x ∧ ((wr.setCell p v).alloc (.cells cs T)).drew.cell? r = some y ∧ ((wr.setCell p v).alloc (.cells cs T)).drew.cell? ⟨wr.heap.size, i, none⟩ = some u := by
 have K : Kp lo hi wr ((wr.setCell p v).alloc (.cells cs T)).drew := ((Kp.set (Kp.refl lo hi wr) h1 h2 v).alloc _).drew
 exact ⟨(K.cell hq (.inr hq2)).trans hx, (K.cell hr (.inl hr2)).trans hy, cell_new hu⟩
theorem undB : Tryz.prog.underlying 74 = some (.slice 4) := by kernel_rfl
theorem undBs : Tryz.prog.underlying 71 = some (.slice 74) := by kernel_rfl

end Go.Proofs.YtlkebhiaimijiaaGreatDoor
