/- sexpr: the open lists in memory. -/
import Derived.Test.YtebgaicapjpohaaDoorSeO
namespace Go.Proofs.YtebgaicapjpohaaDoor
set_option linter.unusedSimpArgs false
set_option linter.unusedVariables false
open Go Go.RowKit
set_option linter.unusedVariables false

/-- Different blocks of growing rows. -/
def Apt (a b : Value) : Prop := a.ownBlock = none ∨ a.ownBlock ≠ b.ownBlock
theorem Apt.symm {a b : Value} (h : Apt a b) : Apt b a := by
  unfold Apt at *
  cases e : b.ownBlock with
  | none => exact .inl rfl
  | some k => rcases h with h | h
              · rw [h]; exact .inr (by simp)
              · rw [e] at h; exact .inr (Ne.symm h)
theorem Apt.new {w : World} {B s n : Nat} {e : TypeId} {a b b' : Value} {xs : List Value} (h : Apt a b) (ho : w.ownsRow B e s a n xs) (hat : b'.ownBlock = b.ownBlock ∨ b'.ownBlock = some w.heap.size) : Apt a b' := by
  unfold Apt at *
  rcases hat with hat | hat
  · rw [hat]; exact h
  · rw [hat]
    cases e : a.ownBlock with
    | none => exact .inl rfl
    | some k => have := (ho.lt k e).2; exact .inr (fun hh => by cases hh; omega)
/-- An open list: its head, its parts so far, the slice of its parts, their cells. -/
structure Op1 where
  x : Sx
  K : Value
  ks : List Value
def Op1.cells (o : Op1) : List Value := [.int .i64 o.x.kind, .int .i64 o.x.value, .int .i64 o.x.line, .int .i64 o.x.column, .string (bs o.x.text), o.K]
def opCells (os : List Op1) : List Value := (os.map Op1.cells).flatten
theorem opCells_len (os : List Op1) : (opCells os).length = os.length * 6 := by
  induction os with
  | nil => rfl
  | cons o os ih =>
    unfold opCells at *
    rw [List.map_cons, List.flatten_cons, List.length_append, ih, List.length_cons]
    show 6 + _ = _
    omega
theorem opCells_app (a b : List Op1) : opCells (a ++ b) = opCells a ++ opCells b := by
  unfold opCells
  rw [List.map_append, List.flatten_append]
/-- The blocks that the reader writes. -/
def bdS (R : Nat) (O : Value) (os : List Op1) (g : Nat) : Prop := g = R ∨ O.ownBlock = some g ∨ ∃ o ∈ os, o.K.ownBlock = some g
/-- The open lists lie in row O (the innermost last). -/
structure StkAt (B R : Nat) (w : World) (O : Value) (os : List Op1) : Prop where
  own : w.ownsRow B 34 6 O os.length (opCells os)
  kid : ∀ o ∈ os, w.ownsRow B 34 6 o.K o.x.kids.length o.ks
  kis : ∀ o ∈ os, KidsIs w (bdS R O os) o.ks o.x.kids
  aO : ∀ o ∈ os, Apt O o.K
  aK : os.Pairwise fun a b => Apt a.K b.K
  rO : O.ownBlock ≠ some R
  rK : ∀ o ∈ os, o.K.ownBlock ≠ some R
section
variable {B R : Nat} {w w' : World} {O : Value} {os : List Op1}
/-- Nothing that is written lies elsewhere: the open lists stay. -/
theorem StkAt.kb {bad : Nat → Prop} (h : StkAt B R w O os) (k : Kb bad w w') (hO : ∀ g, O.ownBlock = some g → ¬ bad g) (hK : ∀ o ∈ os, ∀ g, o.K.ownBlock = some g → ¬ bad g) (hb : ∀ g, bad g → bdS R O os g) : StkAt B R w' O os where
  own := own_kb h.own k hO
  kid := fun o ho => own_kb (h.kid o ho) k (hK o ho)
  kis := fun o ho => KidsIs.move ⟨k.size, fun b hb' hn => k.block b hb' (fun h2 => hn (hb b h2)), fun _ _ h => h⟩ _ _ (h.kis o ho)
  aO := h.aO
  aK := h.aK
  rO := h.rO
  rK := h.rK
theorem StkAt.up (h : StkAt B R w O os) (hb : Below w.heap.size w w') : StkAt B R w' O os :=
  h.kb (bad := fun _ => False) (Kb.of_below hb) (fun _ _ => id) (fun _ _ _ _ => id) (fun _ h => h.elim)
/-- The reader's own box is written. -/
theorem StkAt.box (h : StkAt B R w O os) (k : Kb (fun g => g = R) w w') : StkAt B R w' O os :=
  h.kb k (fun g hg e => h.rO (by rw [hg, e])) (fun o ho g hg e => h.rK o ho (by rw [hg, e])) (fun g h => .inl h)
/-- The frame of a part that grows: K grows to K' in w', row O is kept there but for one cell. -/
theorem StkAt.one {init : List Op1} {o : Op1} (h : StkAt B R w O (init ++ [o])) : (∀ p ∈ init, Apt p.K o.K) ∧ Apt O o.K ∧ w.ownsRow B 34 6 o.K o.x.kids.length o.ks ∧ KidsIs w (bdS R O (init ++ [o])) o.ks o.x.kids := by
  refine ⟨fun p hp => ?_, h.aO o (by simp), h.kid o (by simp), h.kis o (by simp)⟩
  have := (List.pairwise_append.1 h.aK).2.2 p hp o (by simp)
  exact this
end
end Go.Proofs.YtebgaicapjpohaaDoor
