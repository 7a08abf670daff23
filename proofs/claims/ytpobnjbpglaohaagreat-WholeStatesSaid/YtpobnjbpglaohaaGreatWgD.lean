/- Texts laid together: Kb, StaP. -/
import Derived.Test.YtpobnjbpglaohaaGreatWgA
import Derived.Test.YtpobnjbpglaohaaGreatWgB
import Derived.Test.YtpobnjbpglaohaaGreatGoodP
namespace Go.Proofs.YtpobnjbpglaohaaGreat
set_option linter.unusedSimpArgs false
set_option linter.unusedVariables false
section
open Go Go.RowKit
set_option linter.unusedVariables false

structure Kb (bad : Nat → Prop) (w w' : World) : Prop where
  os : w'.os = w.os
  tape : w'.tape = w.tape
  output : w'.output = w.output
  size : w.heap.size ≤ w'.heap.size
  block : ∀ k, k < w.heap.size → ¬ bad k → w'.heap[k]? = w.heap[k]?
section
variable {bad : Nat → Prop} {w w' w'' : World}
theorem Kb.refl (bad : Nat → Prop) (w : World) : Kb bad w w := ⟨rfl, rfl, rfl, Nat.le_refl _, fun _ _ _ => rfl⟩
theorem Kb.trans (h : Kb bad w w') (k : Kb bad w' w'') : Kb bad w w'' :=
  ⟨k.os.trans h.os, k.tape.trans h.tape, k.output.trans h.output, Nat.le_trans h.size k.size, fun i hi ho => (k.block i (Nat.lt_of_lt_of_le hi h.size) ho).trans (h.block i hi ho)⟩
theorem Kb.of_below (h : Below w.heap.size w w') : Kb bad w w' := ⟨h.os, h.tape, h.output, h.size, fun k hk _ => h.block k hk⟩
theorem Kb.low (h : Kb bad w w') (hb : Below w.heap.size w' w'') : Kb bad w w'' :=
  ⟨hb.os.trans h.os, hb.tape.trans h.tape, hb.output.trans h.output, Nat.le_trans h.size hb.size, fun k hk ho => (hb.block k hk).trans (h.block k hk ho)⟩
theorem Kb.up (h : Kb bad w w') (hb : Below w'.heap.size w' w'') : Kb bad w w'' := h.trans (Kb.of_below hb)
theorem Kb.alloc (h : Kb bad w w') (o : Obj) : Kb bad w (w'.alloc o) := h.up ((Below.refl _ _).alloc (Nat.le_refl _) _)
theorem Kb.drew (h : Kb bad w w') : Kb bad w w'.drew := h.up (Below.refl _ _).drew
theorem Kb.set (h : Kb bad w w') {p : Addr} (hp : bad p.block ∨ w.heap.size ≤ p.block) (u : Value) : Kb bad w (w'.setCell p u) :=
  ⟨h.os, h.tape, h.output, by simpa [World.setCell] using h.size, fun k hk ho => (Below.heap_setCell _ _ _ _ (fun e => by
    rcases hp with hp | hp
    · exact ho (by rw [e]; exact hp)
    · omega)).trans (h.block k hk ho)⟩
theorem Kb.grown {row : Option Nat} (h : Kb bad w w') (hg : w'.grownBy w'' row) (hr : ∀ k, row = some k → bad k ∨ w.heap.size ≤ k) : Kb bad w w'' :=
  ⟨hg.os.trans h.os, hg.tape.trans h.tape, hg.output.trans h.output, Nat.le_trans h.size hg.size, fun k hk ho => (hg.block k (Nat.lt_of_lt_of_le hk h.size) fun e => by
    rcases hr k e.symm with h1 | h1
    · exact ho h1
    · omega).trans (h.block k hk ho)⟩
theorem Kb.cell (h : Kb bad w w') {p : Addr} (hp : p.block < w.heap.size) (ho : ¬ bad p.block) : w'.cell? p = w.cell? p := World.cell?_of_block (w := w) (h.block _ hp ho)
theorem Kb.frozen (h : Kb bad w w') {p : Addr} (hp : p.block < w.heap.size) (ho : ¬ bad p.block) : w'.frozen? p = w.frozen? p := World.frozen?_of_block (w := w) (h.block _ hp ho)
theorem Kb.below {B : Nat} (h : Kb bad w w') (hB : ∀ b, b < B → ¬ bad b) (hw : B ≤ w.heap.size) : Below B w w' := ⟨h.os, h.tape, h.output, h.size, fun k hk => h.block k (by omega) (hB k hk)⟩
theorem Kb.moves (h : Kb bad w w') : Moves w w' bad bad := ⟨h.size, h.block, fun _ _ h => h⟩
theorem Kb.row (h : Kb bad w w') {b n : Nat} {t : TypeId} {f : Nat → Value} (hr : w.rowIs b t n f) (ho : ¬ bad b) : w'.rowIs b t n f := hr.of_block (h.block b hr.lt ho)
theorem own_kb {B s n : Nat} {e : TypeId} {v : Value} {xs : List Value} (h : w.ownsRow B e s v n xs) (k : Kb bad w w') (hb : ∀ g, v.ownBlock = some g → ¬ bad g) : w'.ownsRow B e s v n xs := by
  rcases h.2 with ⟨rfl, h0⟩ | ⟨g, cap, cur, rfl, hB, hg, hh⟩
  · exact ⟨h.1, .inl ⟨rfl, h0⟩⟩
  · exact ⟨h.1, .inr ⟨g, cap, cur, rfl, hB, (k.block g (Array.getElem?_eq_some_iff.1 hg).1 (hb g rfl)).trans hg, hh⟩⟩
end

/-- A box of four cells. -/
structure Box4 (w : World) (b : Nat) (v0 v1 v2 v3 : Value) : Prop where
  lt : b < w.heap.size
  c0 : w.cell? ⟨b, 0, none⟩ = some v0
  c1 : w.cell? ⟨b, 1, none⟩ = some v1
  c2 : w.cell? ⟨b, 2, none⟩ = some v2
  c3 : w.cell? ⟨b, 3, none⟩ = some v3
  fz : ∀ k, w.frozen? ⟨b, k, none⟩ = false
section
variable {bad : Nat → Prop} {w w' : World} {b : Nat} {v0 v1 v2 v3 : Value}
theorem Box4.of_block (h : Box4 w b v0 v1 v2 v3) (hs : w.heap.size ≤ w'.heap.size) (hb : w'.heap[b]? = w.heap[b]?) : Box4 w' b v0 v1 v2 v3 :=
  have e : ∀ k, w'.cell? ⟨b, k, none⟩ = w.cell? ⟨b, k, none⟩ := fun k => World.cell?_of_block (w := w) (a := ⟨b, k, none⟩) hb
  ⟨Nat.lt_of_lt_of_le h.lt hs, (e 0).trans h.c0, (e 1).trans h.c1, (e 2).trans h.c2, (e 3).trans h.c3, fun k => (World.frozen?_of_block (w := w) (a := ⟨b, k, none⟩) hb).trans (h.fz k)⟩
theorem Box4.kb (h : Box4 w b v0 v1 v2 v3) (k : Kb bad w w') (hb : ¬ bad b) : Box4 w' b v0 v1 v2 v3 := h.of_block k.size (k.block b h.lt hb)
theorem Box4.up (h : Box4 w b v0 v1 v2 v3) (k : Below w.heap.size w w') : Box4 w' b v0 v1 v2 v3 := h.of_block k.size (k.block b h.lt)
theorem Box4.low {B : Nat} (h : Box4 w b v0 v1 v2 v3) (k : Below B w w') (hb : b < B) : Box4 w' b v0 v1 v2 v3 := h.of_block k.size (k.block b hb)
theorem Box4.alloc (h : Box4 w b v0 v1 v2 v3) (o : Obj) : Box4 (w.alloc o) b v0 v1 v2 v3 := h.up ((Below.refl _ _).alloc (Nat.le_refl _) _)
theorem Box4.drew (h : Box4 w b v0 v1 v2 v3) : Box4 w.drew b v0 v1 v2 v3 := h.up (Below.refl _ _).drew
theorem Box4.new (w : World) (T : TypeId) (v0 v1 v2 v3 : Value) : Box4 (w.alloc (.cells #[v0, v1, v2, v3] T)) w.heap.size v0 v1 v2 v3 :=
  ⟨by simp, by simp, by simp, by simp, by simp, fun k => by simp⟩
theorem Box4.far (h : Box4 w b v0 v1 v2 v3) {p : Addr} (u : Value) (hp : b ≠ p.block) : Box4 (w.setCell p u) b v0 v1 v2 v3 := h.of_block (by simp [World.setCell]) (Below.heap_setCell _ _ _ _ hp)
theorem set_oth (w : World) (b i j : Nat) (u : Value) (h : i ≠ j) : (w.setCell ⟨b, i, none⟩ u).cell? ⟨b, j, none⟩ = w.cell? ⟨b, j, none⟩ := World.cell?_setCell_other _ _ _ _ (by simp [h])
theorem set_frz (w : World) (b i k : Nat) (u : Value) : (w.setCell ⟨b, i, none⟩ u).frozen? ⟨b, k, none⟩ = w.frozen? ⟨b, k, none⟩ := by simp
theorem Box4.set0 (h : Box4 w b v0 v1 v2 v3) (u : Value) : Box4 (w.setCell ⟨b, 0, none⟩ u) b u v1 v2 v3 :=
  ⟨by simpa [World.setCell] using h.lt, World.cell?_setCell_same' _ _ _ (by rw [h.c0]; rfl), (set_oth _ _ _ _ _ (by decide)).trans h.c1, (set_oth _ _ _ _ _ (by decide)).trans h.c2, (set_oth _ _ _ _ _ (by decide)).trans h.c3, fun k => (set_frz _ _ _ _ _).trans (h.fz k)⟩
theorem Box4.set1 (h : Box4 w b v0 v1 v2 v3) (u : Value) : Box4 (w.setCell ⟨b, 1, none⟩ u) b v0 u v2 v3 :=
  ⟨by simpa [World.setCell] using h.lt, (set_oth _ _ _ _ _ (by decide)).trans h.c0, World.cell?_setCell_same' _ _ _ (by rw [h.c1]; rfl), (set_oth _ _ _ _ _ (by decide)).trans h.c2, (set_oth _ _ _ _ _ (by decide)).trans h.c3, fun k => (set_frz _ _ _ _ _).trans (h.fz k)⟩
theorem Box4.set2 (h : Box4 w b v0 v1 v2 v3) (u : Value) : Box4 (w.setCell ⟨b, 2, none⟩ u) b v0 v1 u v3 :=
  ⟨by simpa [World.setCell] using h.lt, (set_oth _ _ _ _ _ (by decide)).trans h.c0, (set_oth _ _ _ _ _ (by decide)).trans h.c1, World.cell?_setCell_same' _ _ _ (by rw [h.c2]; rfl), (set_oth _ _ _ _ _ (by decide)).trans h.c3, fun k => (set_frz _ _ _ _ _).trans (h.fz k)⟩
theorem Box4.set3 (h : Box4 w b v0 v1 v2 v3) (u : Value) : Box4 (w.setCell ⟨b, 3, none⟩ u) b v0 v1 v2 u :=
  ⟨by simpa [World.setCell] using h.lt, (set_oth _ _ _ _ _ (by decide)).trans h.c0, (set_oth _ _ _ _ _ (by decide)).trans h.c1, (set_oth _ _ _ _ _ (by decide)).trans h.c2, World.cell?_setCell_same' _ _ _ (by rw [h.c3]; rfl), fun k => (set_frz _ _ _ _ _).trans (h.fz k)⟩
end

/-- Different blocks of growing rows. -/
def Apt (a b : Value) : Prop := a.ownBlock = none ∨ a.ownBlock ≠ b.ownBlock
theorem Apt.symm {a b : Value} (h : Apt a b) : Apt b a := by
  unfold Apt at *
  cases e : b.ownBlock with
  | none => exact .inl rfl
  | some k => rcases h with h | h
              · rw [h]; exact .inr (by simp)
              · rw [e] at h; exact .inr (Ne.symm h)
theorem Apt.new {w : World} {B s n : Nat} {e : TypeId} {a b b' : Value} {xs : List Value} (h : Apt a b) (ho : w.ownsRow B e s a n xs) (hat : b'.ownBlock = b.ownBlock ∨ b'.ownBlock = some w.heap.size) : Apt a b' := by
  unfold Apt at *
  rcases hat with hat | hat
  · rw [hat]; exact h
  · rw [hat]
    cases e : a.ownBlock with
    | none => exact .inl rfl
    | some k => have := (ho.lt k e).2; exact .inr (fun hh => by cases hh; omega)
/-- Three rows of numbers of the call's own, apart; what lay below base at world W is as it was. -/
structure Rows3 (W : World) (base : Nat) (w : World) (L : Value) (ls : List Int) (V : Value) (vs : List Int) (I : Value) (is : List Int) : Prop where
  bel : Below base W w
  sz : base ≤ w.heap.size
  sW : W.heap.size ≤ w.heap.size
  oL : w.ownsRow base 3 1 L ls.length (ic ls)
  oV : w.ownsRow base 3 1 V vs.length (ic vs)
  oI : w.ownsRow base 3 1 I is.length (ic is)
  aLV : Apt L V
  aLI : Apt L I
  aVI : Apt V I
section
variable {W w w' : World} {base : Nat} {L V I L' V' I' : Value} {ls vs is : List Int} {x : Int}
theorem ic_push (l : List Int) (x : Int) : ic l ++ [.int .i64 x] = ic (l ++ [x]) := by unfold ic; rw [List.map_append]; rfl
theorem Rows3.begin (h : Rows3 W base w L ls V vs I is) : Rows3 w base w L ls V vs I is := { h with bel := Below.refl _ _, sW := Nat.le_refl _ }
theorem Rows3.alloc (h : Rows3 W base w L ls V vs I is) (o : Obj) : Rows3 W base (w.alloc o) L ls V vs I is :=
  { bel := h.bel.alloc h.sz _, sz := by have := h.sz; simp; omega, sW := by have := h.sW; simp; omega, oL := h.oL.alloc _, oV := h.oV.alloc _, oI := h.oI.alloc _, aLV := h.aLV, aLI := h.aLI, aVI := h.aVI }
theorem Rows3.drew (h : Rows3 W base w L ls V vs I is) : Rows3 W base w.drew L ls V vs I is := { h with bel := h.bel.drew, oL := h.oL, oV := h.oV, oI := h.oI }
theorem Rows3.set (h : Rows3 W base w L ls V vs I is) {p : Addr} (u : Value) (hp : p.block < base) : Rows3 (w.setCell p u) base (w.setCell p u) L ls V vs I is :=
  { bel := Below.refl _ _, sz := by have := h.sz; simpa [World.setCell] using this, sW := Nat.le_refl _, oL := own_set h.oL hp, oV := own_set h.oV hp, oI := own_set h.oI hp, aLV := h.aLV, aLI := h.aLI, aVI := h.aVI }
theorem Rows3.pushL (h : Rows3 W base w L ls V vs I is) (hg : w.grownBy w' L.ownBlock) (ho : w'.ownsRow base 3 1 L' (ls.length + 1) (ic ls ++ [.int .i64 x])) (hat : L'.ownBlock = L.ownBlock ∨ L'.ownBlock = some w.heap.size) : Rows3 W base w' L' (ls ++ [x]) V vs I is :=
  { bel := h.bel.grown hg h.sz fun k hk => (h.oL.lt k hk).1, sz := Nat.le_trans h.sz hg.size, sW := Nat.le_trans h.sW hg.size, oL := by rw [List.length_append, ← ic_push]; exact ho, oV := h.oV.kept hg h.aLV.symm, oI := h.oI.kept hg h.aLI.symm, aLV := (h.aLV.symm.new h.oV hat).symm, aLI := (h.aLI.symm.new h.oI hat).symm, aVI := h.aVI }
theorem Rows3.pushV (h : Rows3 W base w L ls V vs I is) (hg : w.grownBy w' V.ownBlock) (ho : w'.ownsRow base 3 1 V' (vs.length + 1) (ic vs ++ [.int .i64 x])) (hat : V'.ownBlock = V.ownBlock ∨ V'.ownBlock = some w.heap.size) : Rows3 W base w' L ls V' (vs ++ [x]) I is :=
  { bel := h.bel.grown hg h.sz fun k hk => (h.oV.lt k hk).1, sz := Nat.le_trans h.sz hg.size, sW := Nat.le_trans h.sW hg.size, oL := h.oL.kept hg h.aLV, oV := by rw [List.length_append, ← ic_push]; exact ho, oI := h.oI.kept hg h.aVI.symm, aLV := h.aLV.new h.oL hat, aLI := h.aLI, aVI := (h.aVI.symm.new h.oI hat).symm }
theorem Rows3.pushI (h : Rows3 W base w L ls V vs I is) (hg : w.grownBy w' I.ownBlock) (ho : w'.ownsRow base 3 1 I' (is.length + 1) (ic is ++ [.int .i64 x])) (hat : I'.ownBlock = I.ownBlock ∨ I'.ownBlock = some w.heap.size) : Rows3 W base w' L ls V vs I' (is ++ [x]) :=
  { bel := h.bel.grown hg h.sz fun k hk => (h.oI.lt k hk).1, sz := Nat.le_trans h.sz hg.size, sW := Nat.le_trans h.sW hg.size, oL := h.oL.kept hg h.aLI, oV := h.oV.kept hg h.aVI, oI := by rw [List.length_append, ← ic_push]; exact ho, aLV := h.aLV, aLI := h.aLI.new h.oL hat, aVI := h.aVI.new h.oV hat }
theorem Rows3.nil (W : World) (base : Nat) (h : base ≤ W.heap.size) : Rows3 W base W (.slice none 0 0) [] (.slice none 0 0) [] (.slice none 0 0) [] :=
  { bel := Below.refl _ _, sz := h, sW := Nat.le_refl _, oL := World.ownsRow_nil _ _ _ _, oV := World.ownsRow_nil _ _ _ _, oI := World.ownsRow_nil _ _ _ _, aLV := .inl rfl, aLI := .inl rfl, aVI := .inl rfl }
theorem own_set' {W : World} {B s n : Nat} {e : TypeId} {v u : Value} {xs : List Value} {p : Addr} (h : W.ownsRow B e s v n xs) (hp : v.ownBlock ≠ some p.block) : (W.setCell p u).ownsRow B e s v n xs := by
  rcases h.2 with ⟨rfl, h0⟩ | ⟨g, cap, cur, rfl, hb, hg, hh⟩
  · exact ⟨h.1, .inl ⟨rfl, h0⟩⟩
  · exact ⟨h.1, .inr ⟨g, cap, cur, rfl, hb, (Below.heap_setCell _ _ _ _ (fun e => hp (by rw [← e]; rfl))).trans hg, hh⟩⟩
theorem own_base {W : World} {B B' s n : Nat} {e : TypeId} {v : Value} {xs : List Value} (h : W.ownsRow B e s v n xs) (hb : B' ≤ B) : W.ownsRow B' e s v n xs :=
  ⟨h.1, h.2.imp id fun ⟨g, cap, cur, h1, h2, h3⟩ => ⟨g, cap, cur, h1, Nat.le_trans hb h2, h3⟩⟩
theorem own_low {W : World} {B s n : Nat} {e : TypeId} {v : Value} {xs : List Value} (h : W.ownsRow B e s v n xs) {g : Nat} (hg : W.heap.size ≤ g ∨ g < B) : v.ownBlock ≠ some g := fun hv => by
  have := h.lt g hv; omega
theorem src_of {W : World} {H size : Nat} {T : TypeId} {vals : List Value} (hH : W.heap[H]? = some (.cells vals.toArray T (0, 0))) (hl : vals.length = size) (h1 : ∀ u ∈ vals, u.oneCell' = true) : SrcAt W (some ⟨H, 0, none⟩) 1 1 size vals where
  none := fun e => nomatch e
  len := by omega
  cells := fun ad e => by cases e; exact cells_of_block hH
  one := h1
theorem four_one {x y z u : Value} (h0 : x.oneCell' = true) (h1 : y.oneCell' = true) (h2 : z.oneCell' = true) (h3 : u.oneCell' = true) : ∀ v ∈ [x, y, z, u], v.oneCell' = true := by intro v hv; simp at hv; rcases hv with rfl | rfl | rfl | rfl <;> assumption
theorem Moves.grownTo {W W' : World} {v v' : Value} {lo : Nat} (hg : W.grownBy W' v.ownBlock) (hat : v'.ownBlock = v.ownBlock ∨ v'.ownBlock = some W.heap.size) :
    Moves W W' (fun b => b < lo ∨ v.ownBlock = some b) (fun b => b < lo ∨ v'.ownBlock = some b) :=
  Moves.grown hg (fun b h => .inr h) fun b hb h => by
    rcases h with h | h
    · exact .inl h
    · rcases hat with e | e
      · exact .inr (e ▸ h)
      · rw [e] at h; cases h; omega
theorem Boxed.low {w w' : World} {b B : Nat} {t : Tsk} {p : Lies} (h : Boxed w b t p) (k : Below B w w') (hb : b < B) : Boxed w' b t p :=
  ⟨Nat.lt_of_lt_of_le h.lt k.size, (k.cell (p := ⟨b, 0, none⟩) hb).trans h.c0, (k.cell (p := ⟨b, 1, none⟩) hb).trans h.c1, (k.cell (p := ⟨b, 2, none⟩) hb).trans h.c2, (k.cell (p := ⟨b, 3, none⟩) hb).trans h.c3⟩
theorem Boxed.far {w : World} {b : Nat} {t : Tsk} {p : Lies} (h : Boxed w b t p) {q : Addr} (u : Value) (hne : b ≠ q.block) : Boxed (w.setCell q u) b t p :=
  have e : ∀ k, (w.setCell q u).cell? ⟨b, k, none⟩ = w.cell? ⟨b, k, none⟩ := fun k => World.cell?_of_block (w := w) (a := ⟨b, k, none⟩) (Below.heap_setCell _ _ _ _ hne)
  ⟨by simpa [World.setCell] using h.lt, (e 0).trans h.c0, (e 1).trans h.c1, (e 2).trans h.c2, (e 3).trans h.c3⟩
/-- The block of one number that is to be appended. -/
structure Src1 (lo : Nat) (w : World) (h : Nat) (x : Int) : Prop where
  ge : lo ≤ h
  lt : h < w.heap.size
  at_ : w.heap[h]? = some (.cells #[.int .i64 x] 3 (0, 0))
theorem Rows3.src (h : Rows3 W base w L ls V vs I is) (x : Int) : Src1 W.heap.size (w.alloc (.cells #[.int .i64 x] 3)) w.heap.size x := ⟨h.sW, by simp, heap_alloc_new _ _⟩
theorem Src1.alloc {lo g : Nat} (h : Src1 lo w g x) (o : Obj) : Src1 lo (w.alloc o) g x :=
  ⟨h.ge, by have := h.lt; simp; omega, ((World.grownBy_alloc w o none).block g h.lt (by simp)).trans h.at_⟩
theorem Src1.drew {lo g : Nat} (h : Src1 lo w g x) : Src1 lo w.drew g x := ⟨h.ge, h.lt, h.at_⟩
theorem Src1.grown {lo g : Nat} (h : Src1 lo w g x) {row : Option Nat} (hg : w.grownBy w' row) (hr : ∀ k, row = some k → k < lo) : Src1 lo w' g x :=
  ⟨h.ge, Nat.lt_of_lt_of_le h.lt hg.size, (hg.block g h.lt (fun e => by have := hr g e.symm; have := h.ge; omega)).trans h.at_⟩
theorem Src1.src {lo g : Nat} (h : Src1 lo w g x) : SrcAt w (some ⟨g, 0, none⟩) 1 1 1 [.int .i64 x] where
  none := fun e => nomatch e
  len := rfl
  cells := fun ad e => by cases e; exact cells_of_block (news := [.int .i64 x]) h.at_
  one := by intro u hu; simp at hu; subst hu; rfl
end
end

section
open Go.RowKit
set_option linter.unusedVariables false

/-- Row k of a list of rows. -/
def row (L : List (List Int)) (k : Nat) : List Int := L.getD k []
/-- The first j of the rows that L's rows make with m values more. -/
def nxL (L : List (List Int)) (m j : Nat) : List (List Int) := (List.range j).map fun j => row L (j / m) ++ [((j % m : Nat) : Int)]
theorem nxL_succ (L : List (List Int)) (m j : Nat) : nxL L m (j + 1) = nxL L m j ++ [row L (j / m) ++ [((j % m : Nat) : Int)]] := by unfold nxL; rw [List.range_succ, List.map_append]; rfl
theorem nxL_len (L : List (List Int)) (m j : Nat) : (nxL L m j).length = j := by unfold nxL; simp
theorem nxL_at (L : List (List Int)) {m j i x : Nat} (hx : x < m) (hj : j = i * m + x) : nxL L m (j + 1) = nxL L m j ++ [row L i ++ [(x : Int)]] := by
  rw [nxL_succ]
  subst hj
  rw [show (i * m + x) / m = i by rw [Nat.mul_comm, Nat.mul_add_div (by omega), Nat.div_eq_of_lt hx]; rfl, show (i * m + x) % m = x by rw [Nat.mul_comm, Nat.mul_add_mod, Nat.mod_eq_of_lt hx]]
theorem nxL_row (L : List (List Int)) {m n i x : Nat} (hx : x < m) (hn : i * m + x < n) : row (nxL L m n) (i * m + x) = row L i ++ [(x : Int)] := by
  unfold nxL
  show (List.map _ _).getD _ _ = _
  rw [List.getD_eq_getElem?_getD, List.getElem?_map, List.getElem?_range hn]
  show row L ((i * m + x) / m) ++ [(((i * m + x) % m : Nat) : Int)] = _
  rw [show (i * m + x) / m = i by rw [Nat.mul_comm, Nat.mul_add_div (by omega), Nat.div_eq_of_lt hx]; rfl, show (i * m + x) % m = x by rw [Nat.mul_comm, Nat.mul_add_mod, Nat.mod_eq_of_lt hx]]
/-- The states of the first k variables. -/
def stN (vars : List Int) : Nat → List (List Int)
  | 0 => [[]]
  | k + 1 => nxL (stN vars k) (nth vars k).toNat ((stN vars k).length * (nth vars k).toNat)
def sts (vars : List Int) : List (List Int) := stN vars vars.length
theorem nth_app2 {a b : List Int} {i : Nat} (h : i < a.length) : nth (a ++ b) i = nth a i := by unfold nth; simp [List.getD, List.getElem?_append_left h]
theorem nth_end2 {a : List Int} {x : Int} : nth (a ++ [x]) a.length = x := by unfold nth; simp [List.getD]
theorem rk_cong {vars s s' : List Int} : ∀ {k : Nat}, (∀ v, v < k → nth s v = nth s' v) → rk vars s k = rk vars s' k
  | 0, _ => rfl
  | k + 1, h => by
    show rk vars s k * nth vars k + nth s k = rk vars s' k * nth vars k + nth s' k
    rw [rk_cong (k := k) (fun v hv => h v (by omega)), h k (by omega)]
section
variable {vars : List Int}
theorem stN_len (h : ∀ k, k < vars.length → 1 ≤ nth vars k) : ∀ k, k ≤ vars.length → ((stN vars k).length : Int) = pr vars k
  | 0, _ => rfl
  | k + 1, hk => by
    have ih := stN_len h k (by omega)
    have h1 := h k (by omega)
    show ((nxL _ _ _).length : Int) = pr vars k * nth vars k
    rw [nxL_len, ← ih]
    push_cast
    rw [show ((nth vars k).toNat : Int) = nth vars k by omega]
/-- Row i is a state of the first k variables, its rank i. -/
theorem stN_row (h : ∀ k, k < vars.length → 1 ≤ nth vars k) : ∀ k, k ≤ vars.length → ∀ i, i < (stN vars k).length →
    (row (stN vars k) i).length = k ∧ (∀ v, v < k → 0 ≤ nth (row (stN vars k) i) v ∧ nth (row (stN vars k) i) v < nth vars v) ∧ rk vars (row (stN vars k) i) k = (i : Int)
  | 0, _ => fun i hi => by
    have : i = 0 := by simp [stN] at hi; omega
    subst this
    exact ⟨rfl, fun v hv => absurd hv (by omega), rfl⟩
  | k + 1, hk => fun i hi => by
    have h1 := h k (by omega)
    obtain ⟨m, hm⟩ : ∃ m, m = (nth vars k).toNat := ⟨_, rfl⟩
    have hm1 : (m : Int) = nth vars k := by omega
    have hs : stN vars (k + 1) = nxL (stN vars k) m ((stN vars k).length * m) := by rw [hm]; rfl
    rw [hs, nxL_len] at hi
    have hmp : 0 < m := by omega
    have hi2 : i / m < (stN vars k).length := Nat.div_lt_of_lt_mul (by rw [Nat.mul_comm]; exact hi)
    have hx : i % m < m := Nat.mod_lt _ hmp
    have hd : i / m * m + i % m = i := by rw [Nat.mul_comm]; exact Nat.div_add_mod i m
    obtain ⟨a1, a2, a3⟩ := stN_row h k (by omega) (i / m) hi2
    have hr : row (stN vars (k + 1)) i = row (stN vars k) (i / m) ++ [((i % m : Nat) : Int)] := by
      have := nxL_row (stN vars k) (m := m) (n := (stN vars k).length * m) (i := i / m) hx (by rw [hd]; exact hi)
      rw [hd] at this
      rw [hs]; exact this
    generalize i / m = q at *
    generalize i % m = x at *
    rw [hr]
    refine ⟨by simp [a1], fun v hv => ?_, ?_⟩
    · by_cases e : v < k
      · rw [nth_app2 (by omega)]; exact a2 v e
      · have : v = (row (stN vars k) q).length := by omega
        subst this
        rw [nth_end2, a1]; omega
    · have e1 : rk vars (row (stN vars k) q ++ [(x : Int)]) k = (q : Int) := by
        rw [← a3]; exact rk_cong fun v hv => nth_app2 (by omega)
      have e2 : nth (row (stN vars k) q ++ [(x : Int)]) k = (x : Int) := by
        have := nth_end2 (a := row (stN vars k) q) (x := (x : Int))
        rwa [a1] at this
      show rk vars _ k * nth vars k + nth _ k = _
      rw [e1, e2, ← hm1, ← hd]
      push_cast
      rfl
/-- A state's rank is its place. -/
theorem stN_rk (h : ∀ k, k < vars.length → 1 ≤ nth vars k) {s : List Int} (hs : StP vars s) : ∀ k, k ≤ vars.length → row (stN vars k) (rk vars s k).toNat = s.take k
  | 0, _ => rfl
  | k + 1, hk => by
    have h1 := h k (by omega)
    have ih := stN_rk h hs k (by omega)
    have hb := rk_bd (vars := vars) (s := s) (n := k) fun v hv => hs.2 v (by rw [hs.1]; omega)
    have hl := stN_len h k (by omega)
    have hx := hs.2 k (by rw [hs.1]; omega)
    obtain ⟨m, hm⟩ : ∃ m, m = (nth vars k).toNat := ⟨_, rfl⟩
    have hm1 : (m : Int) = nth vars k := by omega
    obtain ⟨q, hq⟩ : ∃ q : Nat, rk vars s k = (q : Int) := ⟨(rk vars s k).toNat, by omega⟩
    obtain ⟨x, hx2⟩ : ∃ x : Nat, nth s k = (x : Int) := ⟨(nth s k).toNat, by omega⟩
    rw [hx2] at hx
    have e1 : (rk vars s (k + 1)).toNat = q * m + x := by
      have : rk vars s (k + 1) = rk vars s k * nth vars k + nth s k := rfl
      rw [this, hq, hx2, ← hm1, show (q : Int) * (m : Int) + (x : Int) = ((q * m + x : Nat) : Int) by push_cast; rfl]
      rfl
    have hql : q < (stN vars k).length := by omega
    have hqm : q * m + x < (stN vars k).length * m := by
      have h3 : (q + 1) * m ≤ (stN vars k).length * m := Nat.mul_le_mul_right _ hql
      rw [Nat.add_mul] at h3
      omega
    rw [e1, show stN vars (k + 1) = nxL (stN vars k) m ((stN vars k).length * m) by rw [hm]; rfl, nxL_row _ (by omega) hqm]
    rw [hq] at ih
    have ih' : row (stN vars k) q = s.take k := by simpa using ih
    rw [ih']
    have hkl : k < s.length := by rw [hs.1]; omega
    rw [← List.take_append_getElem hkl]
    have hxx : s[k] = (x : Int) := by rw [← hx2]; unfold nth; simp [List.getD, List.getElem?_eq_getElem hkl]
    rw [hxx]
end
section
variable {t : Tsk}
theorem dom1 (hr : Right t) : ∀ k, k < t.vars.length → 1 ≤ nth t.vars k := fun k hk => (hr.dom k hk).1
theorem sts_len (hr : Right t) : ((sts t.vars).length : Int) = pr t.vars t.vars.length := stN_len (dom1 hr) _ (Nat.le_refl _)
theorem sts_st (hr : Right t) {i : Nat} (hi : i < (sts t.vars).length) : stB t.vars (row (sts t.vars) i) = true := by
  obtain ⟨h1, h2, _⟩ := stN_row (dom1 hr) t.vars.length (Nat.le_refl _) i hi
  unfold stB
  simp only [decide_eq_true_eq]
  exact ⟨h1, fun k hk => h2 k (by rw [← h1]; exact hk)⟩
theorem sts_rk (hr : Right t) {i : Nat} (hi : i < (sts t.vars).length) : rk t.vars (row (sts t.vars) i) t.vars.length = (i : Int) := (stN_row (dom1 hr) t.vars.length (Nat.le_refl _) i hi).2.2
/-- The number of a state. -/
def num (t : Tsk) (s : List Int) : Nat := (rk t.vars s t.vars.length).toNat
theorem num_eq (hr : Right t) {s : List Int} (hs : stB t.vars s = true) : rk t.vars s t.vars.length = (num t s : Int) ∧ num t s < (sts t.vars).length := by
  have hs' : StP t.vars s := by unfold stB at hs; simpa using hs
  have hb := rk_bd (vars := t.vars) (s := s) (n := t.vars.length) fun v hv => hs'.2 v (by rw [hs'.1]; exact hv)
  have hl := sts_len hr
  unfold num
  omega
theorem sts_num (hr : Right t) {s : List Int} (hs : stB t.vars s = true) : row (sts t.vars) (num t s) = s := by
  have hs' : StP t.vars s := by unfold stB at hs; simpa using hs
  have := stN_rk (dom1 hr) hs' t.vars.length (Nat.le_refl _)
  rw [show s.take t.vars.length = s by rw [← hs'.1]; simp] at this
  exact this
theorem num_row (hr : Right t) {i : Nat} (hi : i < (sts t.vars).length) : num t (row (sts t.vars) i) = i := by
  have := sts_rk hr hi
  unfold num
  rw [this]; rfl
/-- The edges: by state, by operator. -/
def egO (t : Tsk) (s : List Int) (i j : Nat) : List (Nat × Nat × Nat) := (List.range j).filterMap fun op => if hoB (opr t.ops op).pre s then some (i, op, num t (nxt t s op)) else none
def egN (t : Tsk) (i : Nat) : List (Nat × Nat × Nat) := (List.range i).flatMap fun i => egO t (row (sts t.vars) i) i t.ops.length
def edges (t : Tsk) : List (Nat × Nat × Nat) := egN t (sts t.vars).length
theorem egO_yes {s : List Int} {i j : Nat} (h : hoB (opr t.ops j).pre s = true) : egO t s i (j + 1) = egO t s i j ++ [(i, j, num t (nxt t s j))] := by unfold egO; rw [List.range_succ, List.filterMap_append]; simp [h]
theorem egO_no {s : List Int} {i j : Nat} (h : hoB (opr t.ops j).pre s = false) : egO t s i (j + 1) = egO t s i j := by unfold egO; rw [List.range_succ, List.filterMap_append]; simp [h]
theorem egO_zero (s : List Int) (i : Nat) : egO t s i 0 = [] := rfl
theorem egN_succ (i : Nat) : egN t (i + 1) = egN t i ++ egO t (row (sts t.vars) i) i t.ops.length := by unfold egN; rw [List.range_succ, List.flatMap_append]; simp
theorem egO_len (s : List Int) (i j : Nat) : (egO t s i j).length ≤ j := by
  unfold egO
  have := List.length_filterMap_le (fun op => if hoB (opr t.ops op).pre s then some (i, op, num t (nxt t s op)) else none) (List.range j)
  simpa using this
theorem egN_len : ∀ i, (egN t i).length ≤ i * t.ops.length
  | 0 => Nat.zero_le _
  | i + 1 => by
    rw [egN_succ, List.length_append]
    have h1 := egN_len i
    have h2 := egO_len (t := t) (row (sts t.vars) i) i t.ops.length
    have h3 : (i + 1) * t.ops.length = i * t.ops.length + t.ops.length := Nat.succ_mul _ _
    omega
def egd (l : List (Nat × Nat × Nat)) (k : Nat) : Nat × Nat × Nat := l.getD k (0, 0, 0)
theorem egd_mem {l : List (Nat × Nat × Nat)} {k : Nat} (h : k < l.length) : egd l k ∈ l := by unfold egd; simp [List.getD, List.getElem?_eq_getElem h]
theorem mem_egd {l : List (Nat × Nat × Nat)} {e : Nat × Nat × Nat} (h : e ∈ l) : ∃ k, k < l.length ∧ egd l k = e := by
  obtain ⟨k, hk, rfl⟩ := List.mem_iff_getElem.1 h
  exact ⟨k, hk, by unfold egd; simp [List.getD, List.getElem?_eq_getElem hk]⟩
theorem mem_edges {e : Nat × Nat × Nat} : e ∈ edges t ↔ e.1 < (sts t.vars).length ∧ e.2.1 < t.ops.length ∧ hoB (opr t.ops e.2.1).pre (row (sts t.vars) e.1) = true ∧ e.2.2 = num t (nxt t (row (sts t.vars) e.1) e.2.1) := by
  obtain ⟨i, op, j⟩ := e
  unfold edges egN egO
  simp only [List.mem_flatMap, List.mem_range, List.mem_filterMap]
  constructor
  · rintro ⟨i', hi, op', hop, h⟩
    split at h
    · rename_i hh
      simp only [Option.some.injEq, Prod.mk.injEq] at h
      obtain ⟨rfl, rfl, rfl⟩ := h
      exact ⟨hi, hop, hh, rfl⟩
    · cases h
  · rintro ⟨h1, h2, h3, h4⟩
    refine ⟨i, h1, op, h2, ?_⟩
    rw [if_pos h3]
    exact congrArg some (Prod.ext rfl (Prod.ext rfl h4.symm))
end
end

end Go.Proofs.YtpobnjbpglaohaaGreat
