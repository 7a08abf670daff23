/- Cuts in memory; the error of costs and cuts. -/
import Derived.Test.YtknnmglaaiimiaaData
namespace Go.Proofs.Ytknnmglaaiimiaa
set_option linter.unusedSimpArgs false
set_option linter.unusedVariables false
open Go.RowKit
set_option linter.unusedVariables false

structure Cut where
  ops : List Int
  cost : Int
def Cut.none : Cut := ⟨[], 0⟩
def cut (l : List Cut) (k : Nat) : Cut := l.getD k Cut.none
theorem cut_mem {l : List Cut} {k : Nat} (h : k < l.length) : cut l k ∈ l := by unfold cut; simp [List.getD, List.getElem?_eq_getElem h]
theorem mem_cut {l : List Cut} {e : Cut} (h : e ∈ l) : ∃ k, k < l.length ∧ e = cut l k := by
  obtain ⟨k, hk, rfl⟩ := List.mem_iff_getElem.1 h
  exact ⟨k, hk, by unfold cut; simp [List.getD, List.getElem?_eq_getElem hk]⟩

/-- Cuts: two cells each. -/
def CutsAt (w : World) (B : Nat) (A : Option Addr) (l : List Cut) : Prop :=
  l.length ≤ 140737488355328 ∧ (0 < l.length → ∃ b off, A = some ⟨b, off, none⟩ ∧ b < B ∧ ∀ k, k < l.length → ∃ S c,
    w.cell? ⟨b, off + k * 2, none⟩ = some (.slice S (cut l k).ops.length c) ∧ IntsAt w B S (cut l k).ops ∧
    w.cell? ⟨b, off + k * 2 + 1, none⟩ = some (.int .i64 (cut l k).cost))
section
variable {w w' : World} {B B' : Nat} {A : Option Addr}
theorem IntsAt.up {l : List Int} (h : IntsAt w w.heap.size A l) (hb : Below w.heap.size w w') : IntsAt w' w'.heap.size A l := h.keep (fun _ hp => hb.cell hp) hb.size
theorem FactsAt.up {l : List (Int × Int)} (h : FactsAt w w.heap.size A l) (hb : Below w.heap.size w w') : FactsAt w' w'.heap.size A l := h.keep (fun _ hp => hb.cell hp) hb.size
theorem CutsAt.len {l : List Cut} (h : CutsAt w B A l) : l.length ≤ 140737488355328 := h.1
theorem CutsAt.keep {l : List Cut} (h : CutsAt w B A l) (hk : ∀ p : Addr, p.block < B → w'.cell? p = w.cell? p) (hB : B ≤ B') : CutsAt w' B' A l :=
  ⟨h.1, fun hn => by
    obtain ⟨b, off, e, hb, hc⟩ := h.2 hn
    refine ⟨b, off, e, by omega, fun k hlt => ?_⟩
    obtain ⟨S, c, h1, h2, h3⟩ := hc k hlt
    exact ⟨S, c, (hk _ hb).trans h1, h2.keep hk hB, (hk _ hb).trans h3⟩⟩
theorem CutsAt.up {l : List Cut} (h : CutsAt w w.heap.size A l) (hb : Below w.heap.size w w') : CutsAt w' w'.heap.size A l := h.keep (fun _ hp => hb.cell hp) hb.size
theorem CutsAt.at2 {l : List Cut} (h : CutsAt w B A l) (hb : Below B w w') {k : Nat} (hk : k < l.length) : ∃ b off S c, A = some ⟨b, off, none⟩ ∧ b < B ∧
    w'.cell? ⟨b, off + k * 2, none⟩ = some (.slice S (cut l k).ops.length c) ∧ IntsAt w B S (cut l k).ops ∧
    w'.cell? ⟨b, off + k * 2 + 1, none⟩ = some (.int .i64 (cut l k).cost) := by
  obtain ⟨b, off, e, hlt, hc⟩ := h.2 (by omega)
  obtain ⟨S, c, h1, h2, h3⟩ := hc k hk
  exact ⟨b, off, S, c, e, hlt, (hb.cell hlt).trans h1, h2, (hb.cell hlt).trans h3⟩
theorem IntsAt.at2 {l : List Int} (h : IntsAt w B A l) (hb : Below B w w') {k : Nat} (hk : k < l.length) : ∃ b off, A = some ⟨b, off, none⟩ ∧ b < B ∧ w'.cell? ⟨b, off + k, none⟩ = some (.int .i64 (nth l k)) := by
  obtain ⟨b, off, e, hlt, hc⟩ := h.2 (by omega)
  exact ⟨b, off, e, hlt, (hb.cell hlt).trans (hc k hk)⟩
end

/-- Does one of the first n have it? -/
def anyB (n : Nat) (g : Nat → Bool) : Bool := (List.range n).any g
theorem anyB_zero (g : Nat → Bool) : anyB 0 g = false := rfl
theorem anyB_succ (n : Nat) (g : Nat → Bool) : anyB (n + 1) g = (anyB n g || g n) := by unfold anyB; rw [List.range_succ, List.any_append]; simp
theorem anyB_true {n : Nat} {g : Nat → Bool} : anyB n g = true ↔ ∃ k, k < n ∧ g k = true := by unfold anyB; simp [List.any_eq_true]
theorem anyB_false {n : Nat} {g : Nat → Bool} : anyB n g = false ↔ ∀ k, k < n → g k = false := by unfold anyB; simp [List.any_eq_false]

/-- A cost out of range; an operator of a cut that is out of range or does not ascend. -/
def offC (costs : List Int) (k : Nat) : Bool := decide (nth costs k < 0) || decide (1048576 < nth costs k)
def badK (n : Nat) (ops : List Int) (i : Nat) : Bool := (decide (nth ops i < 0) || decide ((n : Int) ≤ nth ops i)) || (decide (0 < i) && decide (nth ops i ≤ nth ops (i - 1)))
def cutC (n : Nat) (ops : List Int) : Int := if ops.length = 0 then 3 else if anyB ops.length (badK n ops) then 2 else 0
def cutsC (n : Nat) : List Cut → Int
  | [] => 0
  | x :: r => if cutC n x.ops = 0 then cutsC n r else cutC n x.ops
/-- The number of the error. -/
def chk38 (costs : List Int) (l : List Cut) : Int := if anyB costs.length (offC costs) then 1 else if 24 < l.length then 5 else cutsC costs.length l

theorem cut_zero (x : Cut) (r : List Cut) : cut (x :: r) 0 = x := rfl
theorem cut_succ (x : Cut) (r : List Cut) (k : Nat) : cut (x :: r) (k + 1) = cut r k := by unfold cut; simp [List.getD]
theorem cutsC_at {n : Nat} : ∀ {l : List Cut} {k : Nat}, k < l.length → (∀ j, j < k → cutC n (cut l j).ops = 0) → cutC n (cut l k).ops ≠ 0 → cutsC n l = cutC n (cut l k).ops
  | x :: r, 0, _, _, h => by unfold cutsC; rw [cut_zero] at h ⊢; rw [if_neg h]
  | x :: r, k + 1, hk, ha, h => by
    have h0 := ha 0 (by omega)
    rw [cut_zero] at h0
    unfold cutsC
    rw [if_pos h0, cut_succ]
    rw [cut_succ] at h
    exact cutsC_at (by simpa using hk) (fun j hj => by have := ha (j + 1) (by omega); rwa [cut_succ] at this) h
theorem cutsC_all {n : Nat} : ∀ {l : List Cut}, (∀ j, j < l.length → cutC n (cut l j).ops = 0) → cutsC n l = 0
  | [], _ => rfl
  | x :: r, ha => by
    have h0 := ha 0 (by simp)
    rw [cut_zero] at h0
    unfold cutsC
    rw [if_pos h0]
    exact cutsC_all (fun j hj => by have := ha (j + 1) (by simpa using hj); rwa [cut_succ] at this)
theorem cutsC_zero {n : Nat} : ∀ {l : List Cut}, cutsC n l = 0 → ∀ j, j < l.length → cutC n (cut l j).ops = 0
  | [], _, j, hj => absurd hj (by simp)
  | x :: r, h, j, hj => by
    unfold cutsC at h
    split at h
    · rename_i h0
      cases j with
      | zero => rw [cut_zero]; exact h0
      | succ j => rw [cut_succ]; exact cutsC_zero h j (by simpa using hj)
    · rename_i h0; exact absurd h h0
theorem cutC_none {n : Nat} {ops : List Int} (h : ops.length = 0) : cutC n ops = 3 := by unfold cutC; rw [if_pos h]
theorem cutC_bad {n : Nat} {ops : List Int} {i : Nat} (hi : i < ops.length) (h : badK n ops i = true) : cutC n ops = 2 := by
  unfold cutC
  rw [if_neg (by omega), if_pos (anyB_true.2 ⟨i, hi, h⟩)]
theorem cutC_good {n : Nat} {ops : List Int} (h0 : ops.length ≠ 0) (h : anyB ops.length (badK n ops) = false) : cutC n ops = 0 := by
  unfold cutC
  rw [if_neg h0, h]; rfl

/-- What the cuts without an error are. -/
structure Good38 (costs : List Int) (l : List Cut) : Prop where
  cost : ∀ k, k < costs.length → 0 ≤ nth costs k ∧ nth costs k ≤ 1048576
  many : l.length ≤ 24
  some : ∀ k, k < l.length → 0 < (cut l k).ops.length
  op : ∀ k, k < l.length → ∀ i, i < (cut l k).ops.length → 0 ≤ nth (cut l k).ops i ∧ nth (cut l k).ops i < costs.length ∧ (0 < i → nth (cut l k).ops (i - 1) < nth (cut l k).ops i)
theorem good38 {costs : List Int} {l : List Cut} (h : chk38 costs l = 0) : Good38 costs l := by
  unfold chk38 at h
  cases h1 : anyB costs.length (offC costs)
  · rw [h1] at h
    simp only [Bool.false_eq_true, if_false] at h
    by_cases h2 : 24 < l.length
    · rw [if_pos h2] at h; exact absurd h (by decide)
    · rw [if_neg h2] at h
      have h3 := cutsC_zero h
      rw [anyB_false] at h1
      have h4 : ∀ k, k < l.length → 0 < (cut l k).ops.length ∧ anyB (cut l k).ops.length (badK costs.length (cut l k).ops) = false := fun k hk => by
        have := h3 k hk
        unfold cutC at this
        split at this
        · exact absurd this (by decide)
        · split at this
          · exact absurd this (by decide)
          · rename_i a b; exact ⟨by omega, by simpa using b⟩
      refine ⟨fun k hk => ?_, by omega, fun k hk => (h4 k hk).1, fun k hk i hi => ?_⟩
      · have := h1 k hk
        unfold offC at this
        simp only [Bool.or_eq_false_iff, decide_eq_false_iff_not] at this
        omega
      · have := anyB_false.1 (h4 k hk).2 i hi
        unfold badK at this
        simp only [Bool.or_eq_false_iff, Bool.and_eq_false_iff, decide_eq_false_iff_not] at this
        omega
  · rw [h1] at h; simp at h

end Go.Proofs.Ytknnmglaaiimiaa
