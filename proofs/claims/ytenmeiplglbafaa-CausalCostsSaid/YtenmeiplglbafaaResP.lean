/- The restricted task, plain. No program in sight. -/
import Derived.Test.YtenmeiplglbafaaCauP
import Derived.Test.YtenmeiplglbafaaGoodP
namespace Go.Proofs.Ytenmeiplglbafaa
set_option linter.unusedSimpArgs false
set_option linter.unusedVariables false
open Go.RowKit
set_option linter.unusedVariables false

theorem filterMap_succ {α : Type} (f : Nat → Option α) (k : Nat) : (List.range (k + 1)).filterMap f = (List.range k).filterMap f ++ (f k).toList := by
  rw [List.range_succ, List.filterMap_append]
  cases h : f k <;> simp [h]
theorem filterMap_le {α : Type} (f : Nat → Option α) (k : Nat) : ((List.range k).filterMap f).length ≤ k := by
  have := List.length_filterMap_le f (List.range k)
  simpa using this
/-- The kept ones of the first k facts, with their new numbers. -/
def resFN (tl : List Int) (l : List (Int × Int)) (k : Nat) : List (Int × Int) := (List.range k).filterMap fun i => if 0 ≤ nth tl (fv l i).toNat then some (nth tl (fv l i).toNat, fx l i) else none
theorem resFN_yes {tl : List Int} {l : List (Int × Int)} {k : Nat} (h : 0 ≤ nth tl (fv l k).toNat) : resFN tl l (k + 1) = resFN tl l k ++ [(nth tl (fv l k).toNat, fx l k)] := by unfold resFN; rw [filterMap_succ, if_pos h]; rfl
theorem resFN_no {tl : List Int} {l : List (Int × Int)} {k : Nat} (h : ¬ 0 ≤ nth tl (fv l k).toNat) : resFN tl l (k + 1) = resFN tl l k := by unfold resFN; rw [filterMap_succ, if_neg h]; simp
theorem resFN_len (tl : List Int) (l : List (Int × Int)) (k : Nat) : (resFN tl l k).length ≤ k := filterMap_le _ _
def resF (tl : List Int) (l : List (Int × Int)) : List (Int × Int) := resFN tl l l.length
def resE1 (tl : List Int) (e : Eff) : Eff := ⟨resF tl e.whn, nth tl e.var.toNat, e.val⟩
def resEN (tl : List Int) (es : List Eff) (k : Nat) : List Eff := (List.range k).filterMap fun i => if 0 ≤ nth tl (eff es i).var.toNat then some (resE1 tl (eff es i)) else none
theorem resEN_yes {tl : List Int} {es : List Eff} {k : Nat} (h : 0 ≤ nth tl (eff es k).var.toNat) : resEN tl es (k + 1) = resEN tl es k ++ [resE1 tl (eff es k)] := by unfold resEN; rw [filterMap_succ, if_pos h]; rfl
theorem resEN_no {tl : List Int} {es : List Eff} {k : Nat} (h : ¬ 0 ≤ nth tl (eff es k).var.toNat) : resEN tl es (k + 1) = resEN tl es k := by unfold resEN; rw [filterMap_succ, if_neg h]; simp
theorem resEN_len (tl : List Int) (es : List Eff) (k : Nat) : (resEN tl es k).length ≤ k := filterMap_le _ _
def resO (tl : List Int) (o : Opr) : Opr := ⟨o.name, o.cost, resF tl o.pre, resEN tl o.effs o.effs.length⟩
def resON (tl : List Int) (l : List Opr) (k : Nat) : List Opr := (List.range k).map fun i => resO tl (opr l i)
theorem resON_succ (tl : List Int) (l : List Opr) (k : Nat) : resON tl l (k + 1) = resON tl l k ++ [resO tl (opr l k)] := by unfold resON; rw [List.range_succ, List.map_append]; rfl
theorem resON_len (tl : List Int) (l : List Opr) (k : Nat) : (resON tl l k).length = k := by unfold resON; simp
/-- How many of the first k are kept; the new numbers; what is kept of a list. -/
def cntR (f : Nat → Bool) : Nat → Nat
  | 0 => 0
  | k + 1 => cntR f k + if f k then 1 else 0
theorem cntR_le (f : Nat → Bool) : ∀ k, cntR f k ≤ k
  | 0 => Nat.le_refl _
  | k + 1 => by have := cntR_le f k; unfold cntR; split <;> omega
def toN (f : Nat → Bool) (k : Nat) : List Int := (List.range k).map fun v => if f v then (cntR f v : Int) else -1
theorem toN_yes {f : Nat → Bool} {k : Nat} (h : f k = true) : toN f (k + 1) = toN f k ++ [(cntR f k : Int)] := by unfold toN; rw [List.range_succ, List.map_append]; simp [h]
theorem toN_no {f : Nat → Bool} {k : Nat} (h : f k = false) : toN f (k + 1) = toN f k ++ [-1] := by unfold toN; rw [List.range_succ, List.map_append]; simp [h]
theorem toN_len (f : Nat → Bool) (k : Nat) : (toN f k).length = k := by unfold toN; simp
theorem toN_nth {f : Nat → Bool} {k v : Nat} (h : v < k) : nth (toN f k) v = if f v then (cntR f v : Int) else -1 := by unfold toN nth; simp [List.getD, h]
def keN (f : Nat → Bool) (l : List Int) (k : Nat) : List Int := (List.range k).filterMap fun v => if f v then some (nth l v) else none
theorem keN_yes {f : Nat → Bool} {l : List Int} {k : Nat} (h : f k = true) : keN f l (k + 1) = keN f l k ++ [nth l k] := by unfold keN; rw [filterMap_succ, h]; rfl
theorem keN_no {f : Nat → Bool} {l : List Int} {k : Nat} (h : f k = false) : keN f l (k + 1) = keN f l k := by unfold keN; rw [filterMap_succ, h]; simp
theorem keN_len (f : Nat → Bool) (l : List Int) : ∀ k, (keN f l k).length = cntR f k
  | 0 => rfl
  | k + 1 => by
    cases h : f k
    · rw [keN_no h, keN_len f l k]; show _ = cntR f k + if f k then 1 else 0; rw [h]; rfl
    · rw [keN_yes h, List.length_append, keN_len f l k]; show _ = cntR f k + if f k then 1 else 0; rw [h]; rfl
noncomputable def resTo (t : Tsk) : List Int := toN (relB t) t.vars.length
noncomputable def resT (t : Tsk) : Tsk := ⟨keN (relB t) t.vars t.vars.length, keN (relB t) t.init t.vars.length, resF (resTo t) t.goal, resON (resTo t) t.ops t.ops.length⟩

end Go.Proofs.Ytenmeiplglbafaa
