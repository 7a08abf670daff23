/- The base: what calls that make memory leave behind ('Below'), and regions that draw their order whose operations read and whose calls make memory ('Aft'). -/
import Derived.Test.YtlkebhiaimijiaaGreatDoorRows
import Derived.WalkKit
import Derived.WalkSpells
import Derived.WalkLawsBesides
import Derived.Deep.QuietTactic
import Derived.BigQuiet
import Derived.Lib.Hide
import Derived.RegionTactic
import Derived.BigRegion
namespace Go.Proofs.YtlkebhiaimijiaaGreatDoor
set_option linter.unusedSimpArgs false
set_option linter.unusedVariables false
open Go.RowKit

theorem ret_int {k : IntKind} {a b : Int} (h : a = b) : Ending.returned (.int k a) = .returned (.int k b) := by rw [h]
theorem bool_ret {a b : Bool} (h : a = b) : Ending.returned (.bool a) = .returned (.bool b) := by rw [h]

theorem quiet_left {P : Program} {f : FuncId} {args : Array Value} {w : World} {n : Nat} {v : Value}
  (h : Calls P f args (w.drewN n) fun e w' => e = .returned v ∧ w.drewN n = w') : Calls P f args (w.drewN n) fun e w'' => e = .returned v ∧ ∃ m, w'' = w.drewN m :=
 h.mono fun _ _ ⟨he, hm⟩ => ⟨he, n, hm.symm⟩
theorem quiet_n {P : Program} {f : FuncId} {args : Array Value} {w : World} {n : Nat} {v : Value}
  (h : Calls P f args (w.drewN n) fun e w' => e = .returned v ∧ ∃ m, w' = (w.drewN n).drewN m) : Calls P f args (w.drewN n) fun e w'' => e = .returned v ∧ ∃ m, w'' = w.drewN m :=
 h.mono fun _ _ ⟨he, m, hm⟩ => ⟨he, n + m, by rw [hm, World.drewN_drewN]⟩

theorem below_dN {B : Nat} {a w : World} (h : Below B a w) (n : Nat) : Below B a (w.drewN n) := ⟨h.os, h.tape, h.output, h.size, h.block⟩
theorem below_step {B : Nat} {w X w' : World} (h : Below X.heap.size X w') (hs : B ≤ X.heap.size) (h0 : Below B w X) : Below B w w' := h0.trans (h.mono hs)

theorem bcell {W w1 : World} (hb : Below W.heap.size W w1) : (∀ b o, b < W.heap.size → w1.cell? ⟨b, o, none⟩ = W.cell? ⟨b, o, none⟩) ∧ (∀ b o, b < W.heap.size → w1.frozen? ⟨b, o, none⟩ = W.frozen? ⟨b, o, none⟩) :=
 ⟨fun b o h => hb.cell (p := ⟨b, o, none⟩) h, fun b o h => hb.frozen (p := ⟨b, o, none⟩) h⟩

theorem lt_s (a b : Nat) (h : a ≤ b) : a < b + 1 := Nat.lt_succ_of_le h
theorem le_s (a b : Nat) (h : a ≤ b) : a ≤ b + 1 := Nat.le_succ_of_le h
attribute [go_sem] lt_s le_s

/-- A cell, a mark, behind a name that the walk does not open. -/
def hidC (w : World) (b o : Nat) : Option Value := w.cell? ⟨b, o, none⟩
def hidF (w : World) (b o : Nat) : Bool := w.frozen? ⟨b, o, none⟩
/-- What a call has left, as rules for the walk: 'if', which it decides by linear arithmetic. -/
theorem cellsIf {B : Nat} {W w1 : World} (hb : Below W.heap.size W w1) (hB : W.heap.size = B) :
  (∀ b o, w1.cell? ⟨b, o, none⟩ = if b < B then W.cell? ⟨b, o, none⟩ else hidC w1 b o) ∧ (∀ b o, w1.frozen? ⟨b, o, none⟩ = if b < B then W.frozen? ⟨b, o, none⟩ else hidF w1 b o) ∧ B ≤ w1.heap.size ∧ (∀ b, b < B → b < w1.heap.size) ∧ (∀ b, b ≤ B → b ≤ w1.heap.size) := by
 subst hB
 refine ⟨fun b o => ?_, fun b o => ?_, hb.size, fun b h => Nat.lt_of_lt_of_le h hb.size, fun b h => Nat.le_trans h hb.size⟩
 ·by_cases h : b < W.heap.size
  ·rw [if_pos h]; exact hb.cell (p := ⟨b, o, none⟩) h
  ·rw [if_neg h]; rfl
 ·by_cases h : b < W.heap.size
  ·rw [if_pos h]; exact hb.frozen (p := ⟨b, o, none⟩) h
  ·rw [if_neg h]; rfl

/-- A world in which what was there in w0 is as it was. -/
structure Aft (w0 : World) where
 w : World
 below : Below w0.heap.size w0 w
instance (w0 : World) : Nonempty (Aft w0) := ⟨⟨w0, Below.refl _ _⟩⟩

section
variable {P : Program} {f : FuncId} {args : Array Value} {w0 : World} {x : Aft w0} {v : Value}
theorem aft_of (h : Calls P f args x.w fun e w' => e = .returned v ∧ Below x.w.heap.size x.w w') : Calls P f args x.w fun e w'' => e = .returned v ∧ ∃ y : Aft w0, w'' = y.w :=
 h.mono fun _ w' ⟨he, hb⟩ => ⟨he, ⟨w', below_step hb x.below.size x.below⟩, rfl⟩
theorem aft_same (h : Calls P f args x.w fun e w' => e = .returned v ∧ x.w = w') : Calls P f args x.w fun e w'' => e = .returned v ∧ ∃ y : Aft w0, w'' = y.w :=
 h.mono fun _ _ ⟨he, hb⟩ => ⟨he, x, hb.symm⟩
theorem aft_drew (h : Calls P f args x.w fun e w' => e = .returned v ∧ ∃ n, w' = x.w.drewN n) : Calls P f args x.w fun e w'' => e = .returned v ∧ ∃ y : Aft w0, w'' = y.w :=
 aft_of (h.mono fun _ _ ⟨he, n, hb⟩ => ⟨he, by rw [hb]; exact below_dN (Below.refl _ _) n⟩)
end

theorem aft_below {w w' : World} (h : ∃ x : Aft w, w' = x.w) : Below w.heap.size w w' := by
 obtain ⟨x, rfl⟩ := h
 exact x.below

/-- A region that draws its order, whose operations only read and whose calls leave what was there: one walk, in the text's order. -/
theorem wp_region_aft {P : Program} {id : Nat} {Q : Exit → Act → World → Prop} {a : Act} {w : World} {l : List Oper} {B : Nat} (hm : P.follows .mixedOrders = true) (hB : Region.lexB .any l.toArray = true) (hs : w.heap.size = B)
  (h : (∀ (x : Aft w) (b o : Nat), x.w.cell? ⟨b, o, none⟩ = if b < B then w.cell? ⟨b, o, none⟩ else hidC x.w b o) →
   wpQuiet P l.toArray (fun u => ∃ x : Aft w, u = x.w) (fun a' => ∀ w', (∃ x : Aft w, w' = x.w) → Q .normal a' w') l a) : (Code.region id l.toArray true).wp P Q a w :=
 wp_region_quiet (C := fun u => ∃ x : Aft w, u = x.w) hm hB ⟨⟨_, (Below.refl _ _).drew⟩, rfl⟩ (by simpa using h fun x => (cellsIf x.below hs).1)

end Go.Proofs.YtlkebhiaimijiaaGreatDoor
