/- The steps of a walk through a region that draws its order, in short form. -/
import Derived.Test.YtebgaicapjpohaaDoorReg
namespace Go.Proofs.YtebgaicapjpohaaDoor
set_option linter.unusedSimpArgs false
set_option linter.unusedVariables false
open Go Go.RowKit
set_option linter.unusedVariables false

section
variable {P : Program} {ops : Array Oper} {Q : Exit → Act → World → Prop} {md : Region.Mode} {S T : World → Prop} {st : Nat}
/-- The walk's steps, with the grounds found by the walk itself. An operation that needs no memory. -/
theorem wpS1 (i : Nat) {oi : Oper} {v : Value} {fuel : Nat} {listed : Array Bool} {a a' : Act} {w : World} (hcl : Cl md ops listed ∧ Gd st S listed w)
    (h : Cl md ops (listed.setIfInBounds i true) ∧ Gd st S (listed.setIfInBounds i true) w → wpAnyG P md ops Q st S fuel (listed.setIfInBounds i true) a' w)
    (hi : ops[i]? = some oi := by exact rfl) (hs : Region.noSelect ops = true := by kernel_rfl) (hf : Region.free md ops listed i = true := by kernel_rfl) (hr : (Region.ready md ops listed).contains i = true := by kernel_rfl) (hne : (i == st) = false := by exact rfl) (hw : Region.wanted oi (yielded ops a.tmps) = true := by exact rfl)
    (hy : ∀ w, (fun _ : World => True) w → (execOp a.eval oi).run P w = .ok (.value v) w := by (intro wS hSw; (try dsimp only at hSw); first | (go_simp; done) | (go_simp; with_reducible rfl) | (simp [go_sem, ↓IntWalk.iteOmega, *]; done) | (simp [go_sem, ↓IntWalk.iteOmega, *]; with_reducible rfl)))
    (ha : a.put oi.dst v = a' := by (try simp only [Act.put, List.setIfInBounds_toArray, List.set_cons_zero, List.set_cons_succ, List.getElem_toArray, List.getElem_cons_succ, List.getElem_cons_zero]); exact rfl) (hQ : ∀ c a w, Q (.panic c) (a.put oi.dst v) w → Q (.panic c) a w := by exact fun _ _ _ h => h) : wpAnyG P md ops Q st S (fuel + 1) listed a w :=
  wpAnyG_any hi hcl hs hf hr hne hQ (Or.inl ⟨hw, hy⟩) (ha ▸ h)
/-- A load. -/
theorem wpS2 (i : Nat) {oi : Oper} {v : Value} {fuel : Nat} {listed : Array Bool} {a a' : Act} {w : World} (hcl : Cl md ops listed ∧ Gd st S listed w)
    (h : Cl md ops (listed.setIfInBounds i true) ∧ Gd st S (listed.setIfInBounds i true) w → wpAnyG P md ops Q st S fuel (listed.setIfInBounds i true) a' w)
    (hi : ops[i]? = some oi := by exact rfl) (hs : Region.noSelect ops = true := by kernel_rfl) (hf : Region.free md ops listed i = true := by kernel_rfl) (hr : (Region.ready md ops listed).contains i = true := by kernel_rfl) (hne : (i == st) = false := by exact rfl) (hp : pathB md ops i st = true := by kernel_rfl) (hw : Region.wanted oi (yielded ops a.tmps) = true := by exact rfl)
    (hy : ∀ w, S w → (execOp a.eval oi).run P w = .ok (.value v) w := by (intro wS hSw; (try dsimp only at hSw); first | (go_simp; done) | (go_simp; with_reducible rfl) | (simp [go_sem, ↓IntWalk.iteOmega, *]; done) | (simp [go_sem, ↓IntWalk.iteOmega, *]; with_reducible rfl)))
    (ha : a.put oi.dst v = a' := by (try simp only [Act.put, List.setIfInBounds_toArray, List.set_cons_zero, List.set_cons_succ, List.getElem_toArray, List.getElem_cons_succ, List.getElem_cons_zero]); exact rfl) (hQ : ∀ c a w, Q (.panic c) (a.put oi.dst v) w → Q (.panic c) a w := by exact fun _ _ _ h => h) : wpAnyG P md ops Q st S (fuel + 1) listed a w :=
  wpAnyG_take hi hcl hs hf hr hne hp hQ (Or.inl ⟨hw, hy⟩) (ha ▸ h)
/-- An operation whose guard does not hold. -/
theorem wpS0 (i : Nat) {oi : Oper} {fuel : Nat} {listed : Array Bool} {a a' : Act} {w : World} (hcl : Cl md ops listed ∧ Gd st S listed w)
    (h : Cl md ops (listed.setIfInBounds i true) ∧ Gd st S (listed.setIfInBounds i true) w → wpAnyG P md ops Q st S fuel (listed.setIfInBounds i true) a' w)
    (hi : ops[i]? = some oi := by exact rfl) (hs : Region.noSelect ops = true := by kernel_rfl) (hf : Region.free md ops listed i = true := by kernel_rfl) (hr : (Region.ready md ops listed).contains i = true := by kernel_rfl) (hne : (i == st) = false := by exact rfl) (hw : Region.wanted oi (yielded ops a.tmps) = false := by exact rfl)
    (ha : a.put oi.dst undef = a' := by (try simp only [Act.put, List.setIfInBounds_toArray, List.set_cons_zero, List.set_cons_succ, List.getElem_toArray, List.getElem_cons_succ, List.getElem_cons_zero]); exact rfl) (hQ : ∀ c a w, Q (.panic c) (a.put oi.dst undef) w → Q (.panic c) a w := by exact fun _ _ _ h => h) : wpAnyG P md ops Q st S (fuel + 1) listed a w :=
  wpAnyG_any hi hcl hs hf hr hne hQ (Or.inr ⟨hw, rfl⟩) (ha ▸ h)
/-- An operation whose value is told. -/
theorem wpS3 (i : Nat) (v : Value) {oi : Oper} {fuel : Nat} {listed : Array Bool} {a a' : Act} {w : World} (hcl : Cl md ops listed ∧ Gd st S listed w)
    (h : Cl md ops (listed.setIfInBounds i true) ∧ Gd st S (listed.setIfInBounds i true) w → wpAnyG P md ops Q st S fuel (listed.setIfInBounds i true) a' w)
    (hi : ops[i]? = some oi := by exact rfl) (hs : Region.noSelect ops = true := by kernel_rfl) (hf : Region.free md ops listed i = true := by kernel_rfl) (hr : (Region.ready md ops listed).contains i = true := by kernel_rfl) (hne : (i == st) = false := by exact rfl) (hw : Region.wanted oi (yielded ops a.tmps) = true := by exact rfl)
    (hy : ∀ w, (fun _ : World => True) w → (execOp a.eval oi).run P w = .ok (.value v) w := by (intro wS hSw; (try dsimp only at hSw); (try go_simp); (try simp [go_sem, ↓IntWalk.iteOmega, *])))
    (ha : a.put oi.dst v = a' := by (try simp only [Act.put, List.setIfInBounds_toArray, List.set_cons_zero, List.set_cons_succ, List.getElem_toArray, List.getElem_cons_succ, List.getElem_cons_zero]); exact rfl) (hQ : ∀ c a w, Q (.panic c) (a.put oi.dst v) w → Q (.panic c) a w := by exact fun _ _ _ h => h) : wpAnyG P md ops Q st S (fuel + 1) listed a w :=
  wpAnyG_any hi hcl hs hf hr hne hQ (Or.inl ⟨hw, hy⟩) (ha ▸ h)
/-- The slots in normal form. -/
theorem wpN {fuel : Nat} {listed : Array Bool} {a a' : Act} {w : World} (h : wpAnyG P md ops Q st S fuel listed a' w) (ha : a = a' := by (try simp only [Act.put, List.setIfInBounds_toArray, List.set_cons_zero, List.set_cons_succ, List.getElem_toArray, List.getElem_cons_succ, List.getElem_cons_zero]); exact rfl) : wpAnyG P md ops Q st S fuel listed a w := ha ▸ h
end

end Go.Proofs.YtebgaicapjpohaaDoor
