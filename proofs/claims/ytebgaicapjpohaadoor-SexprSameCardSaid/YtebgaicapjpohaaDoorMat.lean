/- Rows and tables of booleans, of numbers, of the call's own in memory. -/
import Derived.Test.YtebgaicapjpohaaDoorData
import Derived.Deep.OwnRows
namespace Go.Proofs.YtebgaicapjpohaaDoor
set_option linter.unusedSimpArgs false
set_option linter.unusedVariables false
open Go Go.RowKit
set_option linter.unusedVariables false

section
variable {w w' : World} {b : Nat} {t : TypeId} {n : Nat} {f g : Nat → Value}
theorem row_below {B : Nat} (h : w.rowIs b t n f) (hb : Below B w w') (hB : b < B) : w'.rowIs b t n f := h.of_block (hb.block b hB)
theorem row_up (h : w.rowIs b t n f) (hb : Below w.heap.size w w') : w'.rowIs b t n f := h.of_block (hb.block b h.lt)
theorem row_grown {row : Option Nat} (h : w.rowIs b t n f) (hg : w.grownBy w' row) (hr : some b ≠ row) : w'.rowIs b t n f := h.of_block (hg.block b h.lt hr)
theorem row_drewN (h : w.rowIs b t n f) (k : Nat) : (w.drewN k).rowIs b t n f := h
/-- A row's cells are a list of numbers. -/
theorem row_ints {l : List Int} (h : w.rowIs b t l.length fun i => .int .i64 (nth l i)) (hl : l.length ≤ 140737488355328) : IntsAt w w.heap.size (some ⟨b, 0, none⟩) l :=
  ⟨hl, fun _ => ⟨b, 0, rfl, h.lt, fun k hk => by simpa using h.cell hk⟩⟩
end

/-- A table of booleans: row j lies in block rb j, its length L j; the slices of the rows in block g. -/
structure MatIs (w : World) (g n : Nat) (rb L : Nat → Nat) (M : Nat → Nat → Bool) : Prop where
  glt : g < w.heap.size
  top : ∀ j, j < n → w.cell? ⟨g, j, none⟩ = some (.slice (some ⟨rb j, 0, none⟩) (L j) (L j))
  row : ∀ j, j < n → w.rowIs (rb j) 4 (L j) fun c => .bool (M j c)
  inj : ∀ i j, i < n → j < n → rb i = rb j → i = j
  ne : ∀ j, j < n → rb j ≠ g
section
variable {w w' : World} {g n : Nat} {rb L : Nat → Nat} {M : Nat → Nat → Bool}
theorem MatIs.of (h : MatIs w g n rb L M) (hs : w.heap.size ≤ w'.heap.size) (hg : w'.heap[g]? = w.heap[g]?) (hr : ∀ j, j < n → w'.heap[rb j]? = w.heap[rb j]?) : MatIs w' g n rb L M :=
  ⟨Nat.lt_of_lt_of_le h.glt hs, fun j hj => (World.cell?_of_block (w := w) (a := ⟨g, j, none⟩) hg).trans (h.top j hj), fun j hj => (h.row j hj).of_block (hr j hj), h.inj, h.ne⟩
theorem MatIs.up (h : MatIs w g n rb L M) (hb : Below w.heap.size w w') : MatIs w' g n rb L M :=
  h.of hb.size (hb.block _ h.glt) fun j hj => hb.block _ (h.row j hj).lt
theorem MatIs.alloc (h : MatIs w g n rb L M) (o : Obj) : MatIs (w.alloc o) g n rb L M := h.up ((Below.refl _ _).alloc (Nat.le_refl _) _)
theorem MatIs.drew (h : MatIs w g n rb L M) : MatIs w.drew g n rb L M := h.up (Below.refl _ _).drew
theorem MatIs.drewN (h : MatIs w g n rb L M) (k : Nat) : MatIs (w.drewN k) g n rb L M := h.up (below_dN (Below.refl _ _) k)
theorem MatIs.grown {r : Option Nat} (h : MatIs w g n rb L M) (hg : w.grownBy w' r) (h0 : some g ≠ r) (h1 : ∀ j, j < n → some (rb j) ≠ r) : MatIs w' g n rb L M :=
  h.of hg.size (hg.block _ h.glt h0) fun j hj => hg.block _ (h.row j hj).lt (h1 j hj)
theorem MatIs.far (h : MatIs w g n rb L M) {p : Addr} (h0 : g ≠ p.block) (h1 : ∀ j, j < n → rb j ≠ p.block) (u : Value) : MatIs (w.setCell p u) g n rb L M :=
  h.of (by simp [World.setCell]) (Below.heap_setCell _ _ _ _ h0) fun j hj => Below.heap_setCell _ _ _ _ (h1 j hj)
theorem MatIs.congr {M' : Nat → Nat → Bool} (h : MatIs w g n rb L M) (e : ∀ j, j < n → ∀ c, c < L j → M j c = M' j c) : MatIs w g n rb L M' :=
  ⟨h.glt, h.top, fun j hj => (h.row j hj).congr fun c hc => by rw [e j hj c hc], h.inj, h.ne⟩
/-- A store into row v. -/
theorem MatIs.put (h : MatIs w g n rb L M) {v u : Nat} (hv : v < n) (x : Bool) : MatIs (w.setCell ⟨rb v, u, none⟩ (.bool x)) g n rb L (fun j c => if j = v ∧ c = u then x else M j c) :=
  ⟨by simpa [World.setCell] using h.glt, fun j hj => (World.cell?_setCell_other _ _ _ _ (fun e => h.ne v hv (congrArg Addr.block e))).trans (h.top j hj), fun j hj => by
    by_cases e : j = v
    · subst e
      exact ((h.row j hj).set u _).congr fun c hc => by by_cases e : c = u <;> simp [e]
    · exact ((h.row j hj).setOther (fun e2 => e (h.inj j v hj hv e2)) _).congr fun c hc => by simp [e], h.inj, h.ne⟩
theorem MatIs.put_true (h : MatIs w g n rb L M) {v u : Nat} (hv : v < n) {M' : Nat → Nat → Bool} (e : ∀ j, j < n → ∀ c, c < L j → (M j c || (j == v && c == u)) = M' j c) : MatIs (w.setCell ⟨rb v, u, none⟩ (.bool true)) g n rb L M' :=
  (h.put hv true).congr fun j hj c hc => by
    rw [← e j hj c hc]
    by_cases e1 : j = v <;> by_cases e2 : c = u <;> simp [e1, e2]
theorem MatIs.cell (h : MatIs w g n rb L M) {v u : Nat} (hv : v < n) (hu : u < L v) : w.cell? ⟨rb v, u, none⟩ = some (.bool (M v u)) := (h.row v hv).cell hu
theorem MatIs.frozen (h : MatIs w g n rb L M) {v : Nat} (u : Nat) (hv : v < n) : w.frozen? ⟨rb v, u, none⟩ = false := (h.row v hv).frozen u
theorem MatIs.rlt (h : MatIs w g n rb L M) {v : Nat} (hv : v < n) : rb v < w.heap.size := (h.row v hv).lt
end
theorem infoB : (Tryd.prog.info? 4).map (fun i => (i.zero, i.size, i.bytes)) = some (some (.bool false), 1, 1) := by kernel_rfl
end Go.Proofs.YtebgaicapjpohaaDoor
