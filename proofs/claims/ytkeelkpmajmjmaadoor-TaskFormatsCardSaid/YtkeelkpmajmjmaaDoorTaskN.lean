/- base.Apply where the state is nil; base.Apply whole. -/
import Derived.Test.YtkeelkpmajmjmaaDoorTaskM
namespace Go.Proofs.YtkeelkpmajmjmaaDoor
set_option linter.unusedSimpArgs false
set_option linter.unusedVariables false
open Go.RowKit
set_option linter.unusedVariables false

/-- A slice that holds the numbers l. -/
def GotInts (w : World) (v : Value) (l : List Int) : Prop := ∃ A c, v = .slice A l.length c ∧ (A = none → c = 0) ∧ IntsAt w w.heap.size A l
theorem GotInts.up {w w' : World} {v : Value} {l : List Int} (h : GotInts w v l) (hb : Below w.heap.size w w') : GotInts w' v l := by
  obtain ⟨A, c, rfl, h0, h1⟩ := h
  exact ⟨A, c, rfl, h0, h1.up hb⟩
theorem got_nil (w : World) : GotInts w (.slice none 0 0) [] := ⟨none, 0, rfl, fun _ => rfl, by simp, fun h => absurd h (by simp)⟩
theorem own_got {w : World} {B : Nat} {v : Value} {l : List Int} (h : w.ownsRow B 3 1 v l.length (ic l)) (hl : l.length ≤ 140737488355328) : GotInts w v l := by
  rcases h.2 with ⟨rfl, h0⟩ | ⟨b, cap, cur, rfl, hb, hg, hh⟩
  · have h1 : l = [] := List.length_eq_zero_iff.1 h0
    subst h1
    exact got_nil w
  · refine ⟨_, cap, rfl, fun h => (by cases h), hl, fun _ => ⟨b, 0, rfl, (Array.getElem?_eq_some_iff.1 hg).1, fun k hk => ?_⟩⟩
    have := h.cells (g := b) rfl k _ (ic_get hk)
    simp [Addr.add] at this
    split at this
    · rename_i h0; subst h0; exact this
    · simpa using this

/-- The successor, or nothing. -/
def nxt (t : Tsk) (s : List Int) (k : Nat) : List Int := apE s (opr t.ops k).effs (opr t.ops k).effs.length
theorem nxt_len (t : Tsk) (s : List Int) (k : Nat) : (nxt t s k).length = s.length := apE_len _ _ _

end Go.Proofs.YtkeelkpmajmjmaaDoor
