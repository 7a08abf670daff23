/- What is kept where some blocks alone are written; boxes; rows of the call's own (from texts of other seats). -/
import Derived.Test.YtebgaicapjpohaaDoorSeE
import Derived.Test.YtebgaicapjpohaaDoorOwn
import Derived.Test.YtebgaicapjpohaaDoorCif
import Derived.Test.YtebgaicapjpohaaDoorReg
import Derived.Test.YtebgaicapjpohaaDoorApp
namespace Go.Proofs.YtebgaicapjpohaaDoor
set_option linter.unusedSimpArgs false
set_option linter.unusedVariables false
open Go Go.RowKit
set_option linter.unusedVariables false

section
variable {w w' : World} {bad bad' : Nat → Prop} {A : Option Addr}
/-- Blocks that lie at good places are kept; what is bad then was bad. -/
structure Moves (w w' : World) (bad bad' : Nat → Prop) : Prop where
  size : w.heap.size ≤ w'.heap.size
  block : ∀ b, b < w.heap.size → ¬ bad b → w'.heap[b]? = w.heap[b]?
  bad : ∀ b, b < w.heap.size → bad' b → bad b
theorem Moves.cell (h : Moves w w' bad bad') {p : Addr} (hp : p.block < w.heap.size) (hb : ¬ bad p.block) : w'.cell? p = w.cell? p := World.cell?_of_block (w := w) (h.block _ hp hb)
theorem Moves.up (hb : Below w.heap.size w w') : Moves w w' bad bad := ⟨hb.size, fun b h _ => hb.block b h, fun _ _ h => h⟩
theorem Moves.grown {row : Option Nat} (hg : w.grownBy w' row) (hr : ∀ b, row = some b → bad b) (hb : ∀ b, b < w.heap.size → bad' b → bad b) : Moves w w' bad bad' :=
  ⟨hg.size, fun b h hn => hg.block b h fun e => hn (hr b e.symm), hb⟩
theorem Moves.set {p : Addr} (u : Value) (hp : bad p.block) : Moves w (w.setCell p u) bad bad :=
  ⟨by simp [World.setCell], fun b h hn => Below.heap_setCell _ _ _ _ (fun e => hn (by rw [e]; exact hp)), fun _ _ h => h⟩
theorem Moves.mono (hb : ∀ b, b < w.heap.size → bad' b → bad b) : Moves w w bad bad' := ⟨Nat.le_refl _, fun _ _ _ => rfl, hb⟩
theorem Moves.trans {w'' : World} {bad'' : Nat → Prop} (h : Moves w w' bad bad') (k : Moves w' w'' bad' bad'') : Moves w w'' bad bad'' :=
  ⟨Nat.le_trans h.size k.size, fun b hb hn => (k.block b (Nat.lt_of_lt_of_le hb h.size) fun h2 => hn (h.bad b hb h2)).trans (h.block b hb hn), fun b hb hn => h.bad b hb (k.bad b (Nat.lt_of_lt_of_le hb h.size) hn)⟩
end
structure Kb (bad : Nat → Prop) (w w' : World) : Prop where
  os : w'.os = w.os
  tape : w'.tape = w.tape
  output : w'.output = w.output
  size : w.heap.size ≤ w'.heap.size
  block : ∀ k, k < w.heap.size → ¬ bad k → w'.heap[k]? = w.heap[k]?
section
variable {bad : Nat → Prop} {w w' w'' : World}
theorem Kb.refl (bad : Nat → Prop) (w : World) : Kb bad w w := ⟨rfl, rfl, rfl, Nat.le_refl _, fun _ _ _ => rfl⟩
theorem Kb.trans (h : Kb bad w w') (k : Kb bad w' w'') : Kb bad w w'' :=
  ⟨k.os.trans h.os, k.tape.trans h.tape, k.output.trans h.output, Nat.le_trans h.size k.size, fun i hi ho => (k.block i (Nat.lt_of_lt_of_le hi h.size) ho).trans (h.block i hi ho)⟩
theorem Kb.weak {bad2 : Nat → Prop} (h : Kb bad w w') (hb : ∀ g, bad g → bad2 g) : Kb bad2 w w' := ⟨h.os, h.tape, h.output, h.size, fun k hk ho => h.block k hk fun h2 => ho (hb k h2)⟩
theorem Kb.of_below (h : Below w.heap.size w w') : Kb bad w w' := ⟨h.os, h.tape, h.output, h.size, fun k hk _ => h.block k hk⟩
theorem Kb.low (h : Kb bad w w') (hb : Below w.heap.size w' w'') : Kb bad w w'' :=
  ⟨hb.os.trans h.os, hb.tape.trans h.tape, hb.output.trans h.output, Nat.le_trans h.size hb.size, fun k hk ho => (hb.block k hk).trans (h.block k hk ho)⟩
theorem Kb.up (h : Kb bad w w') (hb : Below w'.heap.size w' w'') : Kb bad w w'' := h.trans (Kb.of_below hb)
theorem Kb.alloc (h : Kb bad w w') (o : Obj) : Kb bad w (w'.alloc o) := h.up ((Below.refl _ _).alloc (Nat.le_refl _) _)
theorem Kb.drew (h : Kb bad w w') : Kb bad w w'.drew := h.up (Below.refl _ _).drew
theorem Kb.set (h : Kb bad w w') {p : Addr} (hp : bad p.block ∨ w.heap.size ≤ p.block) (u : Value) : Kb bad w (w'.setCell p u) :=
  ⟨h.os, h.tape, h.output, by simpa [World.setCell] using h.size, fun k hk ho => (Below.heap_setCell _ _ _ _ (fun e => by
    rcases hp with hp | hp
    · exact ho (by rw [e]; exact hp)
    · omega)).trans (h.block k hk ho)⟩
theorem Kb.grown {row : Option Nat} (h : Kb bad w w') (hg : w'.grownBy w'' row) (hr : ∀ k, row = some k → bad k ∨ w.heap.size ≤ k) : Kb bad w w'' :=
  ⟨hg.os.trans h.os, hg.tape.trans h.tape, hg.output.trans h.output, Nat.le_trans h.size hg.size, fun k hk ho => (hg.block k (Nat.lt_of_lt_of_le hk h.size) fun e => by
    rcases hr k e.symm with h1 | h1
    · exact ho h1
    · omega).trans (h.block k hk ho)⟩
theorem Kb.cell (h : Kb bad w w') {p : Addr} (hp : p.block < w.heap.size) (ho : ¬ bad p.block) : w'.cell? p = w.cell? p := World.cell?_of_block (w := w) (h.block _ hp ho)
theorem Kb.frozen (h : Kb bad w w') {p : Addr} (hp : p.block < w.heap.size) (ho : ¬ bad p.block) : w'.frozen? p = w.frozen? p := World.frozen?_of_block (w := w) (h.block _ hp ho)
theorem Kb.below {B : Nat} (h : Kb bad w w') (hB : ∀ b, b < B → ¬ bad b) (hw : B ≤ w.heap.size) : Below B w w' := ⟨h.os, h.tape, h.output, h.size, fun k hk => h.block k (by omega) (hB k hk)⟩
theorem Kb.moves (h : Kb bad w w') : Moves w w' bad bad := ⟨h.size, h.block, fun _ _ h => h⟩
theorem Kb.row (h : Kb bad w w') {b n : Nat} {t : TypeId} {f : Nat → Value} (hr : w.rowIs b t n f) (ho : ¬ bad b) : w'.rowIs b t n f := hr.of_block (h.block b hr.lt ho)
theorem own_kb {B s n : Nat} {e : TypeId} {v : Value} {xs : List Value} (h : w.ownsRow B e s v n xs) (k : Kb bad w w') (hb : ∀ g, v.ownBlock = some g → ¬ bad g) : w'.ownsRow B e s v n xs := by
  rcases h.2 with ⟨rfl, h0⟩ | ⟨g, cap, cur, rfl, hB, hg, hh⟩
  · exact ⟨h.1, .inl ⟨rfl, h0⟩⟩
  · exact ⟨h.1, .inr ⟨g, cap, cur, rfl, hB, (k.block g (Array.getElem?_eq_some_iff.1 hg).1 (hb g rfl)).trans hg, hh⟩⟩
end

section
theorem own_set' {W : World} {B s n : Nat} {e : TypeId} {v u : Value} {xs : List Value} {p : Addr} (h : W.ownsRow B e s v n xs) (hp : v.ownBlock ≠ some p.block) : (W.setCell p u).ownsRow B e s v n xs := by
  rcases h.2 with ⟨rfl, h0⟩ | ⟨g, cap, cur, rfl, hb, hg, hh⟩
  · exact ⟨h.1, .inl ⟨rfl, h0⟩⟩
  · exact ⟨h.1, .inr ⟨g, cap, cur, rfl, hb, (Below.heap_setCell _ _ _ _ (fun e => hp (by rw [← e]; rfl))).trans hg, hh⟩⟩
theorem own_base {W : World} {B B' s n : Nat} {e : TypeId} {v : Value} {xs : List Value} (h : W.ownsRow B e s v n xs) (hb : B' ≤ B) : W.ownsRow B' e s v n xs :=
  ⟨h.1, h.2.imp id fun ⟨g, cap, cur, h1, h2, h3⟩ => ⟨g, cap, cur, h1, Nat.le_trans hb h2, h3⟩⟩
theorem own_low {W : World} {B s n : Nat} {e : TypeId} {v : Value} {xs : List Value} (h : W.ownsRow B e s v n xs) {g : Nat} (hg : W.heap.size ≤ g ∨ g < B) : v.ownBlock ≠ some g := fun hv => by
  have := h.lt g hv; omega
theorem src_of {W : World} {H size : Nat} {T : TypeId} {vals : List Value} (hH : W.heap[H]? = some (.cells vals.toArray T (0, 0))) (hl : vals.length = size) (h1 : ∀ u ∈ vals, u.oneCell' = true) : SrcAt W (some ⟨H, 0, none⟩) 1 1 size vals where
  none := fun e => nomatch e
  len := by omega
  cells := fun ad e => by cases e; exact cells_of_block hH
  one := h1
end
/-- A box: its cells. -/
def BxI (w : World) (X : Nat) (T : TypeId) (cs : Array Value) : Prop := w.heap[X]? = some (.cells cs T (0, 0))
section
variable {w w' : World} {X : Nat} {T : TypeId} {cs : Array Value}
theorem BxI.lt (h : BxI w X T cs) : X < w.heap.size := (Array.getElem?_eq_some_iff.1 h).1
theorem BxI.kb {bad : Nat → Prop} (h : BxI w X T cs) (k : Kb bad w w') (hx : ¬ bad X) : BxI w' X T cs := (k.block X h.lt hx).trans h
theorem BxI.up (h : BxI w X T cs) (k : Below w.heap.size w w') : BxI w' X T cs := (k.block X h.lt).trans h
theorem BxI.new (w : World) (T : TypeId) (cs : Array Value) : BxI (w.alloc (.cells cs T)) w.heap.size T cs := heap_alloc_new _ _
theorem BxI.cell (h : BxI w X T cs) (i : Nat) (v : Value) (hv : cs[i]? = some v) : w.cell? ⟨X, i, none⟩ = some v := by
  unfold BxI at h; simp [World.cell?, h, hv]
theorem BxI.fz (h : BxI w X T cs) (i : Nat) : w.frozen? ⟨X, i, none⟩ = false := by
  unfold BxI at h; simp [World.frozen?, h]
theorem BxI.far (h : BxI w X T cs) {p : Addr} (hp : X ≠ p.block) (u : Value) : BxI (w.setCell p u) X T cs := (Below.heap_setCell _ _ _ _ hp).trans h
theorem BxI.set (h : BxI w X T cs) (i : Nat) (u : Value) : BxI (w.setCell ⟨X, i, none⟩ u) X T (cs.setIfInBounds i u) := by
  unfold BxI at *; simp [World.setCell, Array.getElem?_modify, h]
end
theorem own_setAt2 {w : World} {B n cap g i s : Nat} {e : TypeId} {xs : List Value} (h : w.ownsRow B e s (.slice (some ⟨g, 0, none⟩) n cap) n xs) (u : Value) :
    (w.setCell ⟨g, i, none⟩ u).ownsRow B e s (.slice (some ⟨g, 0, none⟩) n cap) n (xs.set i u) := by
  rcases h.2 with ⟨h0, _⟩ | ⟨b, cap', cur, h1, hb, hg, hnc, hcm, hcs, htk⟩
  · cases h0
  · injection h1 with h1 h2 h3
    injection h1 with h1
    injection h1 with h1 _ _
    subst h1 h3
    refine ⟨by rw [List.length_set]; exact h.1, .inr ⟨g, cap, cur.setIfInBounds i u, rfl, hb, ?_, hnc, hcm, by simpa using hcs, ?_⟩⟩
    · simp [World.setCell, Array.getElem?_modify, hg]
    · rw [Array.toList_setIfInBounds, List.take_set, htk]
end Go.Proofs.YtebgaicapjpohaaDoor
