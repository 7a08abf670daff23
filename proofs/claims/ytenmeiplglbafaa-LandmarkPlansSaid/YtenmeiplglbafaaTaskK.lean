/- task.apply. -/
import Derived.Test.YtenmeiplglbafaaTaskJ
namespace Go.Proofs.Ytenmeiplglbafaa
set_option linter.unusedSimpArgs false
set_option linter.unusedVariables false
open Go.RowKit
set_option linter.unusedVariables false

/-- What the first j effects that fire in s make of s. -/
def apE (s : List Int) (es : List Eff) : Nat → List Int
  | 0 => s
  | j + 1 => if hoB (eff es j).whn s then (apE s es j).set (eff es j).var.toNat (eff es j).val else apE s es j
theorem apE_len (s : List Int) (es : List Eff) (j : Nat) : (apE s es j).length = s.length := by
  induction j with
  | zero => rfl
  | succ j ih => unfold apE; split <;> simp [ih]
def apC (t : Tsk) (s : List Int) (op : Int) : Int :=
  if op < 0 then 1 else if (t.ops.length : Int) ≤ op then 1 else if stB t.vars s then (if hoB (opr t.ops op.toNat).pre s then 0 else 12) else 2
theorem ic_set (l : List Int) (k : Nat) (x : Int) : (ic l).set k (.int .i64 x) = ic (l.set k x) := by unfold ic; rw [List.map_set]
theorem mal_var {t : Tsk} (h : malT t = false) {k j : Nat} (hk : k < t.ops.length) (hj : j < (opr t.ops k).effs.length) : 0 ≤ (eff (opr t.ops k).effs j).var ∧ (eff (opr t.ops k).effs j).var < t.vars.length := by
  unfold malT at h
  simp only [Bool.or_eq_false_iff, anyB_false] at h
  have h1 := h.2 k hk
  unfold malO at h1
  simp only [Bool.or_eq_false_iff, anyB_false] at h1
  have h2 := h1.2 j hj
  unfold malE at h2
  simp only [Bool.or_eq_false_iff, Bool.not_eq_false'] at h2
  have h3 := h2.2
  unfold faB at h3
  simp only [decide_eq_true_eq] at h3
  have h4 := h3 0 (by simp)
  exact ⟨h4.1, h4.2.1⟩

theorem lg_vars {t : Tsk} (h : lgT t = false) : t.vars.length ≤ 64 := by
  unfold lgT at h
  simp only [Bool.or_eq_false_iff, anyB_false] at h
  have := h.1.1.1; simp at this; omega
theorem stB_len {vars s : List Int} (h : stB vars s = true) : s.length = vars.length := by
  unfold stB at h; simp only [decide_eq_true_eq] at h; exact h.1
theorem own_keep {wr w1 : World} {B : Nat} {e : TypeId} {v : Value} {n : Nat} {xs : List Value} (h : wr.ownsRow B e 1 v n xs) (hb : Below wr.heap.size wr w1) : w1.ownsRow B e 1 v n xs :=
  h.kept (row := none) ⟨hb.os, hb.tape, hb.output, hb.size, fun k hk _ => hb.block k hk⟩ (by cases v.ownBlock <;> simp)

theorem own_mono {w : World} {B B' : Nat} {e : TypeId} {v : Value} {n : Nat} {xs : List Value} (h : w.ownsRow B e 1 v n xs) (hb : B' ≤ B) : w.ownsRow B' e 1 v n xs :=
  ⟨h.1, h.2.imp id fun ⟨g, cap, cur, h1, h2, h3⟩ => ⟨g, cap, cur, h1, Nat.le_trans hb h2, h3⟩⟩
theorem own_form {w : World} {B : Nat} {e : TypeId} {v : Value} {n : Nat} {xs : List Value} (h : w.ownsRow B e 1 v n xs) (hn : 0 < n) : ∃ g cap, v = .slice (some ⟨g, 0, none⟩) n cap ∧ B ≤ g ∧ g < w.heap.size := by
  rcases h.2 with ⟨_, h0⟩ | ⟨g, cap, cur, hv, hb, hg, _⟩
  · omega
  · exact ⟨g, cap, hv, hb, (Array.getElem?_eq_some_iff.1 hg).1⟩

end Go.Proofs.Ytenmeiplglbafaa
