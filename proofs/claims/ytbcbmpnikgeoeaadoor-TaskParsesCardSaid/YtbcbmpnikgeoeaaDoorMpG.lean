/- Texts laid together: Kb, TqA. -/
import Derived.Test.YtbcbmpnikgeoeaaDoorMpA
import Derived.Test.YtbcbmpnikgeoeaaDoorMpB
import Derived.Test.YtbcbmpnikgeoeaaDoorMpE
import Derived.Test.YtbcbmpnikgeoeaaDoorMpC
import Derived.Lib.AtoiAllCases
namespace Go.Proofs.YtbcbmpnikgeoeaaDoor
set_option linter.unusedSimpArgs false
set_option linter.unusedVariables false
section
open Go Go.RowKit
set_option linter.unusedVariables false

structure Kb (bad : Nat → Prop) (w w' : World) : Prop where
  os : w'.os = w.os
  tape : w'.tape = w.tape
  output : w'.output = w.output
  size : w.heap.size ≤ w'.heap.size
  block : ∀ k, k < w.heap.size → ¬ bad k → w'.heap[k]? = w.heap[k]?
section
variable {bad : Nat → Prop} {w w' w'' : World}
theorem Kb.refl (bad : Nat → Prop) (w : World) : Kb bad w w := ⟨rfl, rfl, rfl, Nat.le_refl _, fun _ _ _ => rfl⟩
theorem Kb.trans (h : Kb bad w w') (k : Kb bad w' w'') : Kb bad w w'' :=
  ⟨k.os.trans h.os, k.tape.trans h.tape, k.output.trans h.output, Nat.le_trans h.size k.size, fun i hi ho => (k.block i (Nat.lt_of_lt_of_le hi h.size) ho).trans (h.block i hi ho)⟩
theorem Kb.of_below (h : Below w.heap.size w w') : Kb bad w w' := ⟨h.os, h.tape, h.output, h.size, fun k hk _ => h.block k hk⟩
theorem Kb.low (h : Kb bad w w') (hb : Below w.heap.size w' w'') : Kb bad w w'' :=
  ⟨hb.os.trans h.os, hb.tape.trans h.tape, hb.output.trans h.output, Nat.le_trans h.size hb.size, fun k hk ho => (hb.block k hk).trans (h.block k hk ho)⟩
theorem Kb.up (h : Kb bad w w') (hb : Below w'.heap.size w' w'') : Kb bad w w'' := h.trans (Kb.of_below hb)
theorem Kb.alloc (h : Kb bad w w') (o : Obj) : Kb bad w (w'.alloc o) := h.up ((Below.refl _ _).alloc (Nat.le_refl _) _)
theorem Kb.drew (h : Kb bad w w') : Kb bad w w'.drew := h.up (Below.refl _ _).drew
theorem Kb.set (h : Kb bad w w') {p : Addr} (hp : bad p.block ∨ w.heap.size ≤ p.block) (u : Value) : Kb bad w (w'.setCell p u) :=
  ⟨h.os, h.tape, h.output, by simpa [World.setCell] using h.size, fun k hk ho => (Below.heap_setCell _ _ _ _ (fun e => by
    rcases hp with hp | hp
    · exact ho (by rw [e]; exact hp)
    · omega)).trans (h.block k hk ho)⟩
theorem Kb.grown {row : Option Nat} (h : Kb bad w w') (hg : w'.grownBy w'' row) (hr : ∀ k, row = some k → bad k ∨ w.heap.size ≤ k) : Kb bad w w'' :=
  ⟨hg.os.trans h.os, hg.tape.trans h.tape, hg.output.trans h.output, Nat.le_trans h.size hg.size, fun k hk ho => (hg.block k (Nat.lt_of_lt_of_le hk h.size) fun e => by
    rcases hr k e.symm with h1 | h1
    · exact ho h1
    · omega).trans (h.block k hk ho)⟩
theorem Kb.cell (h : Kb bad w w') {p : Addr} (hp : p.block < w.heap.size) (ho : ¬ bad p.block) : w'.cell? p = w.cell? p := World.cell?_of_block (w := w) (h.block _ hp ho)
theorem Kb.frozen (h : Kb bad w w') {p : Addr} (hp : p.block < w.heap.size) (ho : ¬ bad p.block) : w'.frozen? p = w.frozen? p := World.frozen?_of_block (w := w) (h.block _ hp ho)
theorem Kb.below {B : Nat} (h : Kb bad w w') (hB : ∀ b, b < B → ¬ bad b) (hw : B ≤ w.heap.size) : Below B w w' := ⟨h.os, h.tape, h.output, h.size, fun k hk => h.block k (by omega) (hB k hk)⟩
theorem Kb.moves (h : Kb bad w w') : Moves w w' bad bad := ⟨h.size, h.block, fun _ _ h => h⟩
theorem Kb.row (h : Kb bad w w') {b n : Nat} {t : TypeId} {f : Nat → Value} (hr : w.rowIs b t n f) (ho : ¬ bad b) : w'.rowIs b t n f := hr.of_block (h.block b hr.lt ho)
theorem own_kb {B s n : Nat} {e : TypeId} {v : Value} {xs : List Value} (h : w.ownsRow B e s v n xs) (k : Kb bad w w') (hb : ∀ g, v.ownBlock = some g → ¬ bad g) : w'.ownsRow B e s v n xs := by
  rcases h.2 with ⟨rfl, h0⟩ | ⟨g, cap, cur, rfl, hB, hg, hh⟩
  · exact ⟨h.1, .inl ⟨rfl, h0⟩⟩
  · exact ⟨h.1, .inr ⟨g, cap, cur, rfl, hB, (k.block g (Array.getElem?_eq_some_iff.1 hg).1 (hb g rfl)).trans hg, hh⟩⟩
end

/-- A box of four cells. -/
structure Box4 (w : World) (b : Nat) (v0 v1 v2 v3 : Value) : Prop where
  lt : b < w.heap.size
  c0 : w.cell? ⟨b, 0, none⟩ = some v0
  c1 : w.cell? ⟨b, 1, none⟩ = some v1
  c2 : w.cell? ⟨b, 2, none⟩ = some v2
  c3 : w.cell? ⟨b, 3, none⟩ = some v3
  fz : ∀ k, w.frozen? ⟨b, k, none⟩ = false
section
variable {bad : Nat → Prop} {w w' : World} {b : Nat} {v0 v1 v2 v3 : Value}
theorem Box4.of_block (h : Box4 w b v0 v1 v2 v3) (hs : w.heap.size ≤ w'.heap.size) (hb : w'.heap[b]? = w.heap[b]?) : Box4 w' b v0 v1 v2 v3 :=
  have e : ∀ k, w'.cell? ⟨b, k, none⟩ = w.cell? ⟨b, k, none⟩ := fun k => World.cell?_of_block (w := w) (a := ⟨b, k, none⟩) hb
  ⟨Nat.lt_of_lt_of_le h.lt hs, (e 0).trans h.c0, (e 1).trans h.c1, (e 2).trans h.c2, (e 3).trans h.c3, fun k => (World.frozen?_of_block (w := w) (a := ⟨b, k, none⟩) hb).trans (h.fz k)⟩
theorem Box4.kb (h : Box4 w b v0 v1 v2 v3) (k : Kb bad w w') (hb : ¬ bad b) : Box4 w' b v0 v1 v2 v3 := h.of_block k.size (k.block b h.lt hb)
theorem Box4.up (h : Box4 w b v0 v1 v2 v3) (k : Below w.heap.size w w') : Box4 w' b v0 v1 v2 v3 := h.of_block k.size (k.block b h.lt)
theorem Box4.low {B : Nat} (h : Box4 w b v0 v1 v2 v3) (k : Below B w w') (hb : b < B) : Box4 w' b v0 v1 v2 v3 := h.of_block k.size (k.block b hb)
theorem Box4.alloc (h : Box4 w b v0 v1 v2 v3) (o : Obj) : Box4 (w.alloc o) b v0 v1 v2 v3 := h.up ((Below.refl _ _).alloc (Nat.le_refl _) _)
theorem Box4.drew (h : Box4 w b v0 v1 v2 v3) : Box4 w.drew b v0 v1 v2 v3 := h.up (Below.refl _ _).drew
theorem Box4.new (w : World) (T : TypeId) (v0 v1 v2 v3 : Value) : Box4 (w.alloc (.cells #[v0, v1, v2, v3] T)) w.heap.size v0 v1 v2 v3 :=
  ⟨by simp, by simp, by simp, by simp, by simp, fun k => by simp⟩
theorem Box4.far (h : Box4 w b v0 v1 v2 v3) {p : Addr} (u : Value) (hp : b ≠ p.block) : Box4 (w.setCell p u) b v0 v1 v2 v3 := h.of_block (by simp [World.setCell]) (Below.heap_setCell _ _ _ _ hp)
theorem set_oth (w : World) (b i j : Nat) (u : Value) (h : i ≠ j) : (w.setCell ⟨b, i, none⟩ u).cell? ⟨b, j, none⟩ = w.cell? ⟨b, j, none⟩ := World.cell?_setCell_other _ _ _ _ (by simp [h])
theorem set_frz (w : World) (b i k : Nat) (u : Value) : (w.setCell ⟨b, i, none⟩ u).frozen? ⟨b, k, none⟩ = w.frozen? ⟨b, k, none⟩ := by simp
theorem Box4.set0 (h : Box4 w b v0 v1 v2 v3) (u : Value) : Box4 (w.setCell ⟨b, 0, none⟩ u) b u v1 v2 v3 :=
  ⟨by simpa [World.setCell] using h.lt, World.cell?_setCell_same' _ _ _ (by rw [h.c0]; rfl), (set_oth _ _ _ _ _ (by decide)).trans h.c1, (set_oth _ _ _ _ _ (by decide)).trans h.c2, (set_oth _ _ _ _ _ (by decide)).trans h.c3, fun k => (set_frz _ _ _ _ _).trans (h.fz k)⟩
theorem Box4.set1 (h : Box4 w b v0 v1 v2 v3) (u : Value) : Box4 (w.setCell ⟨b, 1, none⟩ u) b v0 u v2 v3 :=
  ⟨by simpa [World.setCell] using h.lt, (set_oth _ _ _ _ _ (by decide)).trans h.c0, World.cell?_setCell_same' _ _ _ (by rw [h.c1]; rfl), (set_oth _ _ _ _ _ (by decide)).trans h.c2, (set_oth _ _ _ _ _ (by decide)).trans h.c3, fun k => (set_frz _ _ _ _ _).trans (h.fz k)⟩
theorem Box4.set2 (h : Box4 w b v0 v1 v2 v3) (u : Value) : Box4 (w.setCell ⟨b, 2, none⟩ u) b v0 v1 u v3 :=
  ⟨by simpa [World.setCell] using h.lt, (set_oth _ _ _ _ _ (by decide)).trans h.c0, (set_oth _ _ _ _ _ (by decide)).trans h.c1, World.cell?_setCell_same' _ _ _ (by rw [h.c2]; rfl), (set_oth _ _ _ _ _ (by decide)).trans h.c3, fun k => (set_frz _ _ _ _ _).trans (h.fz k)⟩
theorem Box4.set3 (h : Box4 w b v0 v1 v2 v3) (u : Value) : Box4 (w.setCell ⟨b, 3, none⟩ u) b v0 v1 v2 u :=
  ⟨by simpa [World.setCell] using h.lt, (set_oth _ _ _ _ _ (by decide)).trans h.c0, (set_oth _ _ _ _ _ (by decide)).trans h.c1, (set_oth _ _ _ _ _ (by decide)).trans h.c2, World.cell?_setCell_same' _ _ _ (by rw [h.c3]; rfl), fun k => (set_frz _ _ _ _ _).trans (h.fz k)⟩
end

/-- Different blocks of growing rows. -/
def Apt (a b : Value) : Prop := a.ownBlock = none ∨ a.ownBlock ≠ b.ownBlock
theorem Apt.symm {a b : Value} (h : Apt a b) : Apt b a := by
  unfold Apt at *
  cases e : b.ownBlock with
  | none => exact .inl rfl
  | some k => rcases h with h | h
              · rw [h]; exact .inr (by simp)
              · rw [e] at h; exact .inr (Ne.symm h)
theorem Apt.new {w : World} {B s n : Nat} {e : TypeId} {a b b' : Value} {xs : List Value} (h : Apt a b) (ho : w.ownsRow B e s a n xs) (hat : b'.ownBlock = b.ownBlock ∨ b'.ownBlock = some w.heap.size) : Apt a b' := by
  unfold Apt at *
  rcases hat with hat | hat
  · rw [hat]; exact h
  · rw [hat]
    cases e : a.ownBlock with
    | none => exact .inl rfl
    | some k => have := (ho.lt k e).2; exact .inr (fun hh => by cases hh; omega)
/-- Three rows of numbers of the call's own, apart; what lay below base at world W is as it was. -/
structure Rows3 (W : World) (base : Nat) (w : World) (L : Value) (ls : List Int) (V : Value) (vs : List Int) (I : Value) (is : List Int) : Prop where
  bel : Below base W w
  sz : base ≤ w.heap.size
  sW : W.heap.size ≤ w.heap.size
  oL : w.ownsRow base 3 1 L ls.length (ic ls)
  oV : w.ownsRow base 3 1 V vs.length (ic vs)
  oI : w.ownsRow base 3 1 I is.length (ic is)
  aLV : Apt L V
  aLI : Apt L I
  aVI : Apt V I
section
variable {W w w' : World} {base : Nat} {L V I L' V' I' : Value} {ls vs is : List Int} {x : Int}
theorem ic_push (l : List Int) (x : Int) : ic l ++ [.int .i64 x] = ic (l ++ [x]) := by unfold ic; rw [List.map_append]; rfl
theorem Rows3.begin (h : Rows3 W base w L ls V vs I is) : Rows3 w base w L ls V vs I is := { h with bel := Below.refl _ _, sW := Nat.le_refl _ }
theorem Rows3.alloc (h : Rows3 W base w L ls V vs I is) (o : Obj) : Rows3 W base (w.alloc o) L ls V vs I is :=
  { bel := h.bel.alloc h.sz _, sz := by have := h.sz; simp; omega, sW := by have := h.sW; simp; omega, oL := h.oL.alloc _, oV := h.oV.alloc _, oI := h.oI.alloc _, aLV := h.aLV, aLI := h.aLI, aVI := h.aVI }
theorem Rows3.drew (h : Rows3 W base w L ls V vs I is) : Rows3 W base w.drew L ls V vs I is := { h with bel := h.bel.drew, oL := h.oL, oV := h.oV, oI := h.oI }
theorem Rows3.set (h : Rows3 W base w L ls V vs I is) {p : Addr} (u : Value) (hp : p.block < base) : Rows3 (w.setCell p u) base (w.setCell p u) L ls V vs I is :=
  { bel := Below.refl _ _, sz := by have := h.sz; simpa [World.setCell] using this, sW := Nat.le_refl _, oL := own_set h.oL hp, oV := own_set h.oV hp, oI := own_set h.oI hp, aLV := h.aLV, aLI := h.aLI, aVI := h.aVI }
theorem Rows3.pushL (h : Rows3 W base w L ls V vs I is) (hg : w.grownBy w' L.ownBlock) (ho : w'.ownsRow base 3 1 L' (ls.length + 1) (ic ls ++ [.int .i64 x])) (hat : L'.ownBlock = L.ownBlock ∨ L'.ownBlock = some w.heap.size) : Rows3 W base w' L' (ls ++ [x]) V vs I is :=
  { bel := h.bel.grown hg h.sz fun k hk => (h.oL.lt k hk).1, sz := Nat.le_trans h.sz hg.size, sW := Nat.le_trans h.sW hg.size, oL := by rw [List.length_append, ← ic_push]; exact ho, oV := h.oV.kept hg h.aLV.symm, oI := h.oI.kept hg h.aLI.symm, aLV := (h.aLV.symm.new h.oV hat).symm, aLI := (h.aLI.symm.new h.oI hat).symm, aVI := h.aVI }
theorem Rows3.pushV (h : Rows3 W base w L ls V vs I is) (hg : w.grownBy w' V.ownBlock) (ho : w'.ownsRow base 3 1 V' (vs.length + 1) (ic vs ++ [.int .i64 x])) (hat : V'.ownBlock = V.ownBlock ∨ V'.ownBlock = some w.heap.size) : Rows3 W base w' L ls V' (vs ++ [x]) I is :=
  { bel := h.bel.grown hg h.sz fun k hk => (h.oV.lt k hk).1, sz := Nat.le_trans h.sz hg.size, sW := Nat.le_trans h.sW hg.size, oL := h.oL.kept hg h.aLV, oV := by rw [List.length_append, ← ic_push]; exact ho, oI := h.oI.kept hg h.aVI.symm, aLV := h.aLV.new h.oL hat, aLI := h.aLI, aVI := (h.aVI.symm.new h.oI hat).symm }
theorem Rows3.pushI (h : Rows3 W base w L ls V vs I is) (hg : w.grownBy w' I.ownBlock) (ho : w'.ownsRow base 3 1 I' (is.length + 1) (ic is ++ [.int .i64 x])) (hat : I'.ownBlock = I.ownBlock ∨ I'.ownBlock = some w.heap.size) : Rows3 W base w' L ls V vs I' (is ++ [x]) :=
  { bel := h.bel.grown hg h.sz fun k hk => (h.oI.lt k hk).1, sz := Nat.le_trans h.sz hg.size, sW := Nat.le_trans h.sW hg.size, oL := h.oL.kept hg h.aLI, oV := h.oV.kept hg h.aVI, oI := by rw [List.length_append, ← ic_push]; exact ho, aLV := h.aLV, aLI := h.aLI.new h.oL hat, aVI := h.aVI.new h.oV hat }
theorem Rows3.nil (W : World) (base : Nat) (h : base ≤ W.heap.size) : Rows3 W base W (.slice none 0 0) [] (.slice none 0 0) [] (.slice none 0 0) [] :=
  { bel := Below.refl _ _, sz := h, sW := Nat.le_refl _, oL := World.ownsRow_nil _ _ _ _, oV := World.ownsRow_nil _ _ _ _, oI := World.ownsRow_nil _ _ _ _, aLV := .inl rfl, aLI := .inl rfl, aVI := .inl rfl }
theorem own_set' {W : World} {B s n : Nat} {e : TypeId} {v u : Value} {xs : List Value} {p : Addr} (h : W.ownsRow B e s v n xs) (hp : v.ownBlock ≠ some p.block) : (W.setCell p u).ownsRow B e s v n xs := by
  rcases h.2 with ⟨rfl, h0⟩ | ⟨g, cap, cur, rfl, hb, hg, hh⟩
  · exact ⟨h.1, .inl ⟨rfl, h0⟩⟩
  · exact ⟨h.1, .inr ⟨g, cap, cur, rfl, hb, (Below.heap_setCell _ _ _ _ (fun e => hp (by rw [← e]; rfl))).trans hg, hh⟩⟩
theorem own_base {W : World} {B B' s n : Nat} {e : TypeId} {v : Value} {xs : List Value} (h : W.ownsRow B e s v n xs) (hb : B' ≤ B) : W.ownsRow B' e s v n xs :=
  ⟨h.1, h.2.imp id fun ⟨g, cap, cur, h1, h2, h3⟩ => ⟨g, cap, cur, h1, Nat.le_trans hb h2, h3⟩⟩
theorem own_low {W : World} {B s n : Nat} {e : TypeId} {v : Value} {xs : List Value} (h : W.ownsRow B e s v n xs) {g : Nat} (hg : W.heap.size ≤ g ∨ g < B) : v.ownBlock ≠ some g := fun hv => by
  have := h.lt g hv; omega
theorem src_of {W : World} {H size : Nat} {T : TypeId} {vals : List Value} (hH : W.heap[H]? = some (.cells vals.toArray T (0, 0))) (hl : vals.length = size) (h1 : ∀ u ∈ vals, u.oneCell' = true) : SrcAt W (some ⟨H, 0, none⟩) 1 1 size vals where
  none := fun e => nomatch e
  len := by omega
  cells := fun ad e => by cases e; exact cells_of_block hH
  one := h1
theorem four_one {x y z u : Value} (h0 : x.oneCell' = true) (h1 : y.oneCell' = true) (h2 : z.oneCell' = true) (h3 : u.oneCell' = true) : ∀ v ∈ [x, y, z, u], v.oneCell' = true := by intro v hv; simp at hv; rcases hv with rfl | rfl | rfl | rfl <;> assumption
theorem Moves.grownTo {W W' : World} {v v' : Value} {lo : Nat} (hg : W.grownBy W' v.ownBlock) (hat : v'.ownBlock = v.ownBlock ∨ v'.ownBlock = some W.heap.size) :
    Moves W W' (fun b => b < lo ∨ v.ownBlock = some b) (fun b => b < lo ∨ v'.ownBlock = some b) :=
  Moves.grown hg (fun b h => .inr h) fun b hb h => by
    rcases h with h | h
    · exact .inl h
    · rcases hat with e | e
      · exact .inr (e ▸ h)
      · rw [e] at h; cases h; omega
theorem Boxed.low {w w' : World} {b B : Nat} {t : Tsk} {p : Lies} (h : Boxed w b t p) (k : Below B w w') (hb : b < B) : Boxed w' b t p :=
  ⟨Nat.lt_of_lt_of_le h.lt k.size, (k.cell (p := ⟨b, 0, none⟩) hb).trans h.c0, (k.cell (p := ⟨b, 1, none⟩) hb).trans h.c1, (k.cell (p := ⟨b, 2, none⟩) hb).trans h.c2, (k.cell (p := ⟨b, 3, none⟩) hb).trans h.c3⟩
theorem Boxed.far {w : World} {b : Nat} {t : Tsk} {p : Lies} (h : Boxed w b t p) {q : Addr} (u : Value) (hne : b ≠ q.block) : Boxed (w.setCell q u) b t p :=
  have e : ∀ k, (w.setCell q u).cell? ⟨b, k, none⟩ = w.cell? ⟨b, k, none⟩ := fun k => World.cell?_of_block (w := w) (a := ⟨b, k, none⟩) (Below.heap_setCell _ _ _ _ hne)
  ⟨by simpa [World.setCell] using h.lt, (e 0).trans h.c0, (e 1).trans h.c1, (e 2).trans h.c2, (e 3).trans h.c3⟩
/-- The block of one number that is to be appended. -/
structure Src1 (lo : Nat) (w : World) (h : Nat) (x : Int) : Prop where
  ge : lo ≤ h
  lt : h < w.heap.size
  at_ : w.heap[h]? = some (.cells #[.int .i64 x] 3 (0, 0))
theorem Rows3.src (h : Rows3 W base w L ls V vs I is) (x : Int) : Src1 W.heap.size (w.alloc (.cells #[.int .i64 x] 3)) w.heap.size x := ⟨h.sW, by simp, heap_alloc_new _ _⟩
theorem Src1.alloc {lo g : Nat} (h : Src1 lo w g x) (o : Obj) : Src1 lo (w.alloc o) g x :=
  ⟨h.ge, by have := h.lt; simp; omega, ((World.grownBy_alloc w o none).block g h.lt (by simp)).trans h.at_⟩
theorem Src1.drew {lo g : Nat} (h : Src1 lo w g x) : Src1 lo w.drew g x := ⟨h.ge, h.lt, h.at_⟩
theorem Src1.grown {lo g : Nat} (h : Src1 lo w g x) {row : Option Nat} (hg : w.grownBy w' row) (hr : ∀ k, row = some k → k < lo) : Src1 lo w' g x :=
  ⟨h.ge, Nat.lt_of_lt_of_le h.lt hg.size, (hg.block g h.lt (fun e => by have := hr g e.symm; have := h.ge; omega)).trans h.at_⟩
theorem Src1.src {lo g : Nat} (h : Src1 lo w g x) : SrcAt w (some ⟨g, 0, none⟩) 1 1 1 [.int .i64 x] where
  none := fun e => nomatch e
  len := rfl
  cells := fun ad e => by cases e; exact cells_of_block (news := [.int .i64 x]) h.at_
  one := by intro u hu; simp at hu; subst hu; rfl
end
end

section
open Go Go.RowKit
set_option linter.unusedVariables false

structure Env (w : World) : Prop where
  t : EnvT w
  m : EnvM w
  a : EnvA w
theorem Env.up {w w' : World} (h : Env w) (hb : Below w.heap.size w w') : Env w' := ⟨h.t.up hb, h.m.up hb, h.a.up hb⟩
/-- What the library's variables hold, laid ahead of block P. -/
def EnvP (P : Nat) (w : World) : Prop := ∃ w0, Env w0 ∧ w0.heap.size ≤ P ∧ Below w0.heap.size w0 w
theorem EnvP.env {P : Nat} {w : World} (h : EnvP P w) : Env w := by
  obtain ⟨w0, h0, -, hb⟩ := h
  exact h0.up hb
def txt (l : List (List UInt8)) (k : Nat) : List UInt8 := l.getD k []
theorem txt_mem {l : List (List UInt8)} {k : Nat} (h : k < l.length) : txt l k ∈ l := by unfold txt; simp [List.getD, List.getElem?_eq_getElem h]
theorem txt_take {l : List (List UInt8)} {k : Nat} (h : k < l.length) : l.take (k + 1) = l.take k ++ [txt l k] := by
  rw [List.take_succ_eq_append_getElem h]
  unfold txt
  simp [List.getD, h]
theorem txt_drop (l : List (List UInt8)) (n k : Nat) : txt (l.drop n) k = txt l (n + k) := by unfold txt; simp [List.getD]
theorem txt_succ (x : List UInt8) (l : List (List UInt8)) (k : Nat) : txt (x :: l) (k + 1) = txt l k := rfl
/-- A row of texts at a good place. -/
def StrsAt (w : World) (bad : Nat → Prop) (A : Option Addr) (l : List (List UInt8)) : Prop :=
  l.length ≤ 65537 ∧ (∀ s ∈ l, s.length ≤ 65536) ∧ (0 < l.length → ∃ b off, A = some ⟨b, off, none⟩ ∧ b < w.heap.size ∧ ¬ bad b ∧ ∀ k, k < l.length → w.cell? ⟨b, off + k, none⟩ = some (.string (bs (txt l k))))
section
variable {w w' : World} {bad bad' : Nat → Prop} {A : Option Addr} {l : List (List UInt8)}
theorem StrsAt.nil (w : World) (bad : Nat → Prop) (A : Option Addr) : StrsAt w bad A [] := ⟨by simp, by simp, fun h => absurd h (by simp)⟩
theorem StrsAt.move (h : StrsAt w bad A l) (m : Moves w w' bad bad') : StrsAt w' bad' A l :=
  ⟨h.1, h.2.1, fun hn => by
    obtain ⟨b, off, e, hb, hx, hc⟩ := h.2.2 hn
    exact ⟨b, off, e, Nat.lt_of_lt_of_le hb m.size, fun h2 => hx (m.bad b hb h2), fun k hk => (m.cell (p := ⟨b, _, none⟩) hb hx).trans (hc k hk)⟩⟩
theorem StrsAt.up (h : StrsAt w bad A l) (hb : Below w.heap.size w w') : StrsAt w' bad A l := h.move (Moves.up hb)
theorem StrsAt.at_ (h : StrsAt w bad A l) {k : Nat} (hk : k < l.length) : ∃ b off, A = some ⟨b, off, none⟩ ∧ b < w.heap.size ∧ ¬ bad b ∧ w.cell? ⟨b, off + k, none⟩ = some (.string (bs (txt l k))) := by
  obtain ⟨b, off, e, hb, hx, hc⟩ := h.2.2 (by omega)
  exact ⟨b, off, e, hb, hx, hc k hk⟩
theorem StrsAt.drop {b off : Nat} (h : StrsAt w bad (some ⟨b, off, none⟩) l) (n : Nat) : StrsAt w bad (some ⟨b, off + n, none⟩) (l.drop n) :=
  ⟨by have := h.1; rw [List.length_drop]; omega, fun s hs => h.2.1 s (List.mem_of_mem_drop hs), fun hn => by
    rw [List.length_drop] at hn
    obtain ⟨b', off', e, hb, hx, hc⟩ := h.2.2 (by omega)
    cases e
    refine ⟨b, off + n, rfl, hb, hx, fun k hk => ?_⟩
    rw [List.length_drop] at hk
    rw [txt_drop, Nat.add_assoc]
    exact hc (n + k) (by omega)⟩
theorem StrsAt.small (h : StrsAt w bad A l) {k : Nat} (hk : k < l.length) : (txt l k).length ≤ 65536 := h.2.1 _ (txt_mem hk)
end
/-- The parser's box P: the lines that are left (in block L, from o on), and whether one was bad. -/
structure Par (w : World) (P L o c : Nat) (ls : List (List UInt8)) (b : Bool) : Prop where
  blk : w.heap[P]? = some (.cells #[.slice (some ⟨L, o, none⟩) ls.length c, .bool b] 62 (0, 0))
  low : L < P
  cap : ls.length < c
  len : ls.length ≤ 65537
  sml : ∀ s ∈ ls, s.length ≤ 65536
  at_ : ∀ k, k < ls.length → w.cell? ⟨L, o + k, none⟩ = some (.string (bs (txt ls k)))
  env : EnvP P w
/-- What the parser's methods keep. -/
abbrev Kp1 (P : Nat) (w w' : World) : Prop := Kb (fun b => b = P) w w'
section
variable {w w' : World} {P L o c : Nat} {ls : List (List UInt8)} {b : Bool}
theorem Par.lt (h : Par w P L o c ls b) : P < w.heap.size := (Array.getElem?_eq_some_iff.1 h.blk).1
theorem Par.c0 (h : Par w P L o c ls b) : w.cell? ⟨P, 0, none⟩ = some (.slice (some ⟨L, o, none⟩) ls.length c) := by simp [World.cell?, h.blk]
theorem Par.c1 (h : Par w P L o c ls b) : w.cell? ⟨P, 1, none⟩ = some (.bool b) := by simp [World.cell?, h.blk]
theorem Par.fz (h : Par w P L o c ls b) (k : Nat) : w.frozen? ⟨P, k, none⟩ = false := by simp [World.frozen?, h.blk]
theorem Par.kb {bad : Nat → Prop} (h : Par w P L o c ls b) (k : Kb bad w w') (hb : ∀ b, b ≤ P → ¬ bad b) : Par w' P L o c ls b where
  blk := (k.block P h.lt (hb P (Nat.le_refl _))).trans h.blk
  low := h.low
  cap := h.cap
  len := h.len
  sml := h.sml
  at_ := fun j hj => (k.cell (p := ⟨L, _, none⟩) (Nat.lt_trans h.low h.lt) (hb L (Nat.le_of_lt h.low))).trans (h.at_ j hj)
  env := by
    obtain ⟨w0, h0, h1, h2⟩ := h.env
    have := h.lt
    exact ⟨w0, h0, h1, h2.trans (k.below (fun b hb' => hb b (by omega)) (by omega))⟩
theorem Par.up (h : Par w P L o c ls b) (hb : Below w.heap.size w w') : Par w' P L o c ls b := h.kb (bad := fun _ => False) (Kb.of_below hb) (fun _ _ => id)
theorem Par.alloc (h : Par w P L o c ls b) (x : Obj) : Par (w.alloc x) P L o c ls b := h.up ((Below.refl _ _).alloc (Nat.le_refl _) _)
theorem Par.drew (h : Par w P L o c ls b) : Par w.drew P L o c ls b := h.up (Below.refl _ _).drew
theorem setB_heap (h : w.heap[P]? = some (.cells #[.slice (some ⟨L, o, none⟩) ls.length c, .bool b] 62 (0, 0))) (v : Value) : (w.setCell ⟨P, 1, none⟩ v).heap[P]? = some (.cells #[.slice (some ⟨L, o, none⟩) ls.length c, v] 62 (0, 0)) := by
  simp [World.setCell, Array.getElem?_modify, h]
theorem setA_heap (h : w.heap[P]? = some (.cells #[.slice (some ⟨L, o, none⟩) ls.length c, .bool b] 62 (0, 0))) (v : Value) : (w.setCell ⟨P, 0, none⟩ v).heap[P]? = some (.cells #[v, .bool b] 62 (0, 0)) := by
  simp [World.setCell, Array.getElem?_modify, h]
theorem EnvP.set (h : EnvP P w) (i : Nat) (v : Value) : EnvP P (w.setCell ⟨P, i, none⟩ v) := by
  obtain ⟨w0, h0, h1, h2⟩ := h
  exact ⟨w0, h0, h1, h2.setCell (p := ⟨P, i, none⟩) h1 v⟩
/-- bad is set. -/
theorem Par.bad (h : Par w P L o c ls b) (b' : Bool) : Par (w.setCell ⟨P, 1, none⟩ (.bool b')) P L o c ls b' where
  blk := setB_heap h.blk _
  low := h.low
  cap := h.cap
  len := h.len
  sml := h.sml
  at_ := fun j hj => (World.cell?_of_block (w := w) (a := ⟨L, o + j, none⟩) (Below.heap_setCell _ _ _ _ (by have := h.low; show L ≠ P; omega))).trans (h.at_ j hj)
  env := h.env.set _ _
/-- A line is taken. -/
theorem Par.cut {l : List UInt8} {r : List (List UInt8)} (h : Par w P L o c (l :: r) b) : Par (w.setCell ⟨P, 0, none⟩ (.slice (some ⟨L, o + 1, none⟩) r.length (c - 1))) P L (o + 1) (c - 1) r b where
  blk := setA_heap h.blk _
  low := h.low
  cap := by have := h.cap; simp at this; omega
  len := by have := h.len; simp at this; omega
  sml := fun s hs => h.sml s (List.mem_cons_of_mem _ hs)
  at_ := fun j hj => (World.cell?_of_block (w := w) (a := ⟨L, o + 1 + j, none⟩) (Below.heap_setCell _ _ _ _ (by have := h.low; show L ≠ P; omega))).trans (by
    have := h.at_ (j + 1) (by simp; omega)
    rw [txt_succ] at this
    rw [show o + 1 + j = o + (j + 1) by omega]
    exact this)
  env := h.env.set _ _
theorem Kp1.set (w : World) (P i : Nat) (v : Value) : Kp1 P w (w.setCell ⟨P, i, none⟩ v) := (Kb.refl (fun b => b = P) w).set (p := ⟨P, i, none⟩) (.inl rfl) v
theorem moves_kp (h : Kp1 P w w') {lo : Nat} (hlo : P < lo) : Moves w w' (fun b => b < lo) (fun b => b < lo) := ⟨h.size, fun b hb hn => h.block b hb (fun e => hn (by omega)), fun _ _ h => h⟩
end
section
variable {w w' : World} {P L o c : Nat} {ls : List (List UInt8)} {b : Bool}
theorem Par.far (h : Par w P L o c ls b) {p : Addr} (hp : P < p.block) (u : Value) : Par (w.setCell p u) P L o c ls b :=
  h.kb (bad := fun b => b = p.block) ((Kb.refl (fun b => b = p.block) w).set (p := p) (.inl rfl) u) (fun b hb e => by omega)
end
/-- A box: its cells. -/
def BxI (w : World) (X : Nat) (T : TypeId) (cs : Array Value) : Prop := w.heap[X]? = some (.cells cs T (0, 0))
section
variable {w w' : World} {X : Nat} {T : TypeId} {cs : Array Value}
theorem BxI.lt (h : BxI w X T cs) : X < w.heap.size := (Array.getElem?_eq_some_iff.1 h).1
theorem BxI.kb {bad : Nat → Prop} (h : BxI w X T cs) (k : Kb bad w w') (hx : ¬ bad X) : BxI w' X T cs := (k.block X h.lt hx).trans h
theorem BxI.up (h : BxI w X T cs) (k : Below w.heap.size w w') : BxI w' X T cs := (k.block X h.lt).trans h
theorem BxI.new (w : World) (T : TypeId) (cs : Array Value) : BxI (w.alloc (.cells cs T)) w.heap.size T cs := heap_alloc_new _ _
theorem BxI.cell (h : BxI w X T cs) (i : Nat) (v : Value) (hv : cs[i]? = some v) : w.cell? ⟨X, i, none⟩ = some v := by
  unfold BxI at h; simp [World.cell?, h, hv]
theorem BxI.fz (h : BxI w X T cs) (i : Nat) : w.frozen? ⟨X, i, none⟩ = false := by
  unfold BxI at h; simp [World.frozen?, h]
theorem BxI.far (h : BxI w X T cs) {p : Addr} (hp : X ≠ p.block) (u : Value) : BxI (w.setCell p u) X T cs := (Below.heap_setCell _ _ _ _ hp).trans h
theorem BxI.set (h : BxI w X T cs) (i : Nat) (u : Value) : BxI (w.setCell ⟨X, i, none⟩ u) X T (cs.setIfInBounds i u) := by
  unfold BxI at *; simp [World.setCell, Array.getElem?_modify, h]
end
/-- What a line gives a method: the words, the lines that are left, whether it was wrong. -/
def lineR (word : List UInt8) : List (List UInt8) → List (List UInt8) × List (List UInt8) × Bool
  | [] => ([], [], true)
  | l :: r => if isW word l = true then ((pcs 32 l).tail, r, false) else ([], l :: r, true)
/-- Lists one longer. -/
theorem numsW_snoc : ∀ (l : List (List UInt8)) (s : List UInt8), numsW (l ++ [s]) = match numsW l, numW s with
    | some x, some y => some (x ++ [y])
    | _, _ => none
  | [], s => by rw [List.nil_append, numsW, numsW]; cases numW s <;> rfl
  | a :: l, s => by
    rw [List.cons_append, numsW, numsW_snoc l s, numsW]
    cases numW a <;> cases numsW l <;> cases numW s <;> rfl
theorem facsW_snoc : ∀ (l : List (List UInt8)) (s : List UInt8), facsW (l ++ [s]) = match facsW l, facW s with
    | some x, some y => some (x ++ [y])
    | _, _ => none
  | [], s => by rw [List.nil_append, facsW, facsW]; cases facW s <;> rfl
  | a :: l, s => by
    rw [List.cons_append, facsW, facsW_snoc l s, facsW]
    cases facW a <;> cases facsW l <;> cases facW s <;> rfl
/-- Or, as the code writes it. -/
theorem or_none {α : Type} (b : Bool) (x : Option α) : (b || x.isNone) = true ↔ b = true ∨ x = none := by cases b <;> cases x <;> simp
end

end Go.Proofs.YtbcbmpnikgeoeaaDoor
