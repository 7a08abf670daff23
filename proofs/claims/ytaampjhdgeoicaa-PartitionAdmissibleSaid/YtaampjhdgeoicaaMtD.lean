/- Texts laid together: Kb, AppN, StaP, RankB, StaW, EdgW, DisP. -/
import Derived.Test.YtaampjhdgeoicaaMtA
import Derived.Test.YtaampjhdgeoicaaMfC
import Derived.Test.YtaampjhdgeoicaaMfA
import Derived.Test.YtaampjhdgeoicaaMtB
import Derived.Maps.AppendAt
import Derived.Laws.AppendOwnNone
import Derived.Deep.RegionHeld3
import Derived.Deep.AppendLies
import Derived.Laws.OwnMore
import Derived.Test.YtaampjhdgeoicaaMtC
import Derived.Test.YtaampjhdgeoicaaTaskA
import Derived.Test.YtaampjhdgeoicaaGood
namespace Go.Proofs.Ytaampjhdgeoicaa
set_option linter.unusedSimpArgs false
set_option linter.unusedVariables false
section
open Go Go.RowKit
set_option linter.unusedVariables false

structure Kb (bad : Nat → Prop) (w w' : World) : Prop where
  os : w'.os = w.os
  tape : w'.tape = w.tape
  output : w'.output = w.output
  size : w.heap.size ≤ w'.heap.size
  block : ∀ k, k < w.heap.size → ¬ bad k → w'.heap[k]? = w.heap[k]?
section
variable {bad : Nat → Prop} {w w' w'' : World}
theorem Kb.refl (bad : Nat → Prop) (w : World) : Kb bad w w := ⟨rfl, rfl, rfl, Nat.le_refl _, fun _ _ _ => rfl⟩
theorem Kb.trans (h : Kb bad w w') (k : Kb bad w' w'') : Kb bad w w'' :=
  ⟨k.os.trans h.os, k.tape.trans h.tape, k.output.trans h.output, Nat.le_trans h.size k.size, fun i hi ho => (k.block i (Nat.lt_of_lt_of_le hi h.size) ho).trans (h.block i hi ho)⟩
theorem Kb.of_below (h : Below w.heap.size w w') : Kb bad w w' := ⟨h.os, h.tape, h.output, h.size, fun k hk _ => h.block k hk⟩
theorem Kb.low (h : Kb bad w w') (hb : Below w.heap.size w' w'') : Kb bad w w'' :=
  ⟨hb.os.trans h.os, hb.tape.trans h.tape, hb.output.trans h.output, Nat.le_trans h.size hb.size, fun k hk ho => (hb.block k hk).trans (h.block k hk ho)⟩
theorem Kb.up (h : Kb bad w w') (hb : Below w'.heap.size w' w'') : Kb bad w w'' := h.trans (Kb.of_below hb)
theorem Kb.alloc (h : Kb bad w w') (o : Obj) : Kb bad w (w'.alloc o) := h.up ((Below.refl _ _).alloc (Nat.le_refl _) _)
theorem Kb.drew (h : Kb bad w w') : Kb bad w w'.drew := h.up (Below.refl _ _).drew
theorem Kb.set (h : Kb bad w w') {p : Addr} (hp : bad p.block ∨ w.heap.size ≤ p.block) (u : Value) : Kb bad w (w'.setCell p u) :=
  ⟨h.os, h.tape, h.output, by simpa [World.setCell] using h.size, fun k hk ho => (Below.heap_setCell _ _ _ _ (fun e => by
    rcases hp with hp | hp
    · exact ho (by rw [e]; exact hp)
    · omega)).trans (h.block k hk ho)⟩
theorem Kb.grown {row : Option Nat} (h : Kb bad w w') (hg : w'.grownBy w'' row) (hr : ∀ k, row = some k → bad k ∨ w.heap.size ≤ k) : Kb bad w w'' :=
  ⟨hg.os.trans h.os, hg.tape.trans h.tape, hg.output.trans h.output, Nat.le_trans h.size hg.size, fun k hk ho => (hg.block k (Nat.lt_of_lt_of_le hk h.size) fun e => by
    rcases hr k e.symm with h1 | h1
    · exact ho h1
    · omega).trans (h.block k hk ho)⟩
theorem Kb.cell (h : Kb bad w w') {p : Addr} (hp : p.block < w.heap.size) (ho : ¬ bad p.block) : w'.cell? p = w.cell? p := World.cell?_of_block (w := w) (h.block _ hp ho)
theorem Kb.frozen (h : Kb bad w w') {p : Addr} (hp : p.block < w.heap.size) (ho : ¬ bad p.block) : w'.frozen? p = w.frozen? p := World.frozen?_of_block (w := w) (h.block _ hp ho)
theorem Kb.below {B : Nat} (h : Kb bad w w') (hB : ∀ b, b < B → ¬ bad b) (hw : B ≤ w.heap.size) : Below B w w' := ⟨h.os, h.tape, h.output, h.size, fun k hk => h.block k (by omega) (hB k hk)⟩
theorem Kb.moves (h : Kb bad w w') : Moves w w' bad bad := ⟨h.size, h.block, fun _ _ h => h⟩
theorem Kb.row (h : Kb bad w w') {b n : Nat} {t : TypeId} {f : Nat → Value} (hr : w.rowIs b t n f) (ho : ¬ bad b) : w'.rowIs b t n f := hr.of_block (h.block b hr.lt ho)
theorem own_kb {B s n : Nat} {e : TypeId} {v : Value} {xs : List Value} (h : w.ownsRow B e s v n xs) (k : Kb bad w w') (hb : ∀ g, v.ownBlock = some g → ¬ bad g) : w'.ownsRow B e s v n xs := by
  rcases h.2 with ⟨rfl, h0⟩ | ⟨g, cap, cur, rfl, hB, hg, hh⟩
  · exact ⟨h.1, .inl ⟨rfl, h0⟩⟩
  · exact ⟨h.1, .inr ⟨g, cap, cur, rfl, hB, (k.block g (Array.getElem?_eq_some_iff.1 hg).1 (hb g rfl)).trans hg, hh⟩⟩
end

/-- A box of four cells. -/
structure Box4 (w : World) (b : Nat) (v0 v1 v2 v3 : Value) : Prop where
  lt : b < w.heap.size
  c0 : w.cell? ⟨b, 0, none⟩ = some v0
  c1 : w.cell? ⟨b, 1, none⟩ = some v1
  c2 : w.cell? ⟨b, 2, none⟩ = some v2
  c3 : w.cell? ⟨b, 3, none⟩ = some v3
  fz : ∀ k, w.frozen? ⟨b, k, none⟩ = false
section
variable {bad : Nat → Prop} {w w' : World} {b : Nat} {v0 v1 v2 v3 : Value}
theorem Box4.of_block (h : Box4 w b v0 v1 v2 v3) (hs : w.heap.size ≤ w'.heap.size) (hb : w'.heap[b]? = w.heap[b]?) : Box4 w' b v0 v1 v2 v3 :=
  have e : ∀ k, w'.cell? ⟨b, k, none⟩ = w.cell? ⟨b, k, none⟩ := fun k => World.cell?_of_block (w := w) (a := ⟨b, k, none⟩) hb
  ⟨Nat.lt_of_lt_of_le h.lt hs, (e 0).trans h.c0, (e 1).trans h.c1, (e 2).trans h.c2, (e 3).trans h.c3, fun k => (World.frozen?_of_block (w := w) (a := ⟨b, k, none⟩) hb).trans (h.fz k)⟩
theorem Box4.kb (h : Box4 w b v0 v1 v2 v3) (k : Kb bad w w') (hb : ¬ bad b) : Box4 w' b v0 v1 v2 v3 := h.of_block k.size (k.block b h.lt hb)
theorem Box4.up (h : Box4 w b v0 v1 v2 v3) (k : Below w.heap.size w w') : Box4 w' b v0 v1 v2 v3 := h.of_block k.size (k.block b h.lt)
theorem Box4.low {B : Nat} (h : Box4 w b v0 v1 v2 v3) (k : Below B w w') (hb : b < B) : Box4 w' b v0 v1 v2 v3 := h.of_block k.size (k.block b hb)
theorem Box4.alloc (h : Box4 w b v0 v1 v2 v3) (o : Obj) : Box4 (w.alloc o) b v0 v1 v2 v3 := h.up ((Below.refl _ _).alloc (Nat.le_refl _) _)
theorem Box4.drew (h : Box4 w b v0 v1 v2 v3) : Box4 w.drew b v0 v1 v2 v3 := h.up (Below.refl _ _).drew
theorem Box4.new (w : World) (T : TypeId) (v0 v1 v2 v3 : Value) : Box4 (w.alloc (.cells #[v0, v1, v2, v3] T)) w.heap.size v0 v1 v2 v3 :=
  ⟨by simp, by simp, by simp, by simp, by simp, fun k => by simp⟩
theorem Box4.far (h : Box4 w b v0 v1 v2 v3) {p : Addr} (u : Value) (hp : b ≠ p.block) : Box4 (w.setCell p u) b v0 v1 v2 v3 := h.of_block (by simp [World.setCell]) (Below.heap_setCell _ _ _ _ hp)
theorem set_oth (w : World) (b i j : Nat) (u : Value) (h : i ≠ j) : (w.setCell ⟨b, i, none⟩ u).cell? ⟨b, j, none⟩ = w.cell? ⟨b, j, none⟩ := World.cell?_setCell_other _ _ _ _ (by simp [h])
theorem set_frz (w : World) (b i k : Nat) (u : Value) : (w.setCell ⟨b, i, none⟩ u).frozen? ⟨b, k, none⟩ = w.frozen? ⟨b, k, none⟩ := by simp
theorem Box4.set0 (h : Box4 w b v0 v1 v2 v3) (u : Value) : Box4 (w.setCell ⟨b, 0, none⟩ u) b u v1 v2 v3 :=
  ⟨by simpa [World.setCell] using h.lt, World.cell?_setCell_same' _ _ _ (by rw [h.c0]; rfl), (set_oth _ _ _ _ _ (by decide)).trans h.c1, (set_oth _ _ _ _ _ (by decide)).trans h.c2, (set_oth _ _ _ _ _ (by decide)).trans h.c3, fun k => (set_frz _ _ _ _ _).trans (h.fz k)⟩
theorem Box4.set1 (h : Box4 w b v0 v1 v2 v3) (u : Value) : Box4 (w.setCell ⟨b, 1, none⟩ u) b v0 u v2 v3 :=
  ⟨by simpa [World.setCell] using h.lt, (set_oth _ _ _ _ _ (by decide)).trans h.c0, World.cell?_setCell_same' _ _ _ (by rw [h.c1]; rfl), (set_oth _ _ _ _ _ (by decide)).trans h.c2, (set_oth _ _ _ _ _ (by decide)).trans h.c3, fun k => (set_frz _ _ _ _ _).trans (h.fz k)⟩
theorem Box4.set2 (h : Box4 w b v0 v1 v2 v3) (u : Value) : Box4 (w.setCell ⟨b, 2, none⟩ u) b v0 v1 u v3 :=
  ⟨by simpa [World.setCell] using h.lt, (set_oth _ _ _ _ _ (by decide)).trans h.c0, (set_oth _ _ _ _ _ (by decide)).trans h.c1, World.cell?_setCell_same' _ _ _ (by rw [h.c2]; rfl), (set_oth _ _ _ _ _ (by decide)).trans h.c3, fun k => (set_frz _ _ _ _ _).trans (h.fz k)⟩
theorem Box4.set3 (h : Box4 w b v0 v1 v2 v3) (u : Value) : Box4 (w.setCell ⟨b, 3, none⟩ u) b v0 v1 v2 u :=
  ⟨by simpa [World.setCell] using h.lt, (set_oth _ _ _ _ _ (by decide)).trans h.c0, (set_oth _ _ _ _ _ (by decide)).trans h.c1, (set_oth _ _ _ _ _ (by decide)).trans h.c2, World.cell?_setCell_same' _ _ _ (by rw [h.c3]; rfl), fun k => (set_frz _ _ _ _ _).trans (h.fz k)⟩
end

/-- Different blocks of growing rows. -/
def Apt (a b : Value) : Prop := a.ownBlock = none ∨ a.ownBlock ≠ b.ownBlock
theorem Apt.symm {a b : Value} (h : Apt a b) : Apt b a := by
  unfold Apt at *
  cases e : b.ownBlock with
  | none => exact .inl rfl
  | some k => rcases h with h | h
              · rw [h]; exact .inr (by simp)
              · rw [e] at h; exact .inr (Ne.symm h)
theorem Apt.new {w : World} {B s n : Nat} {e : TypeId} {a b b' : Value} {xs : List Value} (h : Apt a b) (ho : w.ownsRow B e s a n xs) (hat : b'.ownBlock = b.ownBlock ∨ b'.ownBlock = some w.heap.size) : Apt a b' := by
  unfold Apt at *
  rcases hat with hat | hat
  · rw [hat]; exact h
  · rw [hat]
    cases e : a.ownBlock with
    | none => exact .inl rfl
    | some k => have := (ho.lt k e).2; exact .inr (fun hh => by cases hh; omega)
/-- Three rows of numbers of the call's own, apart; what lay below base at world W is as it was. -/
structure Rows3 (W : World) (base : Nat) (w : World) (L : Value) (ls : List Int) (V : Value) (vs : List Int) (I : Value) (is : List Int) : Prop where
  bel : Below base W w
  sz : base ≤ w.heap.size
  sW : W.heap.size ≤ w.heap.size
  oL : w.ownsRow base 3 1 L ls.length (ic ls)
  oV : w.ownsRow base 3 1 V vs.length (ic vs)
  oI : w.ownsRow base 3 1 I is.length (ic is)
  aLV : Apt L V
  aLI : Apt L I
  aVI : Apt V I
section
variable {W w w' : World} {base : Nat} {L V I L' V' I' : Value} {ls vs is : List Int} {x : Int}
theorem ic_push (l : List Int) (x : Int) : ic l ++ [.int .i64 x] = ic (l ++ [x]) := by unfold ic; rw [List.map_append]; rfl
theorem Rows3.begin (h : Rows3 W base w L ls V vs I is) : Rows3 w base w L ls V vs I is := { h with bel := Below.refl _ _, sW := Nat.le_refl _ }
theorem Rows3.alloc (h : Rows3 W base w L ls V vs I is) (o : Obj) : Rows3 W base (w.alloc o) L ls V vs I is :=
  { bel := h.bel.alloc h.sz _, sz := by have := h.sz; simp; omega, sW := by have := h.sW; simp; omega, oL := h.oL.alloc _, oV := h.oV.alloc _, oI := h.oI.alloc _, aLV := h.aLV, aLI := h.aLI, aVI := h.aVI }
theorem Rows3.drew (h : Rows3 W base w L ls V vs I is) : Rows3 W base w.drew L ls V vs I is := { h with bel := h.bel.drew, oL := h.oL, oV := h.oV, oI := h.oI }
theorem Rows3.set (h : Rows3 W base w L ls V vs I is) {p : Addr} (u : Value) (hp : p.block < base) : Rows3 (w.setCell p u) base (w.setCell p u) L ls V vs I is :=
  { bel := Below.refl _ _, sz := by have := h.sz; simpa [World.setCell] using this, sW := Nat.le_refl _, oL := own_set h.oL hp, oV := own_set h.oV hp, oI := own_set h.oI hp, aLV := h.aLV, aLI := h.aLI, aVI := h.aVI }
theorem Rows3.pushL (h : Rows3 W base w L ls V vs I is) (hg : w.grownBy w' L.ownBlock) (ho : w'.ownsRow base 3 1 L' (ls.length + 1) (ic ls ++ [.int .i64 x])) (hat : L'.ownBlock = L.ownBlock ∨ L'.ownBlock = some w.heap.size) : Rows3 W base w' L' (ls ++ [x]) V vs I is :=
  { bel := h.bel.grown hg h.sz fun k hk => (h.oL.lt k hk).1, sz := Nat.le_trans h.sz hg.size, sW := Nat.le_trans h.sW hg.size, oL := by rw [List.length_append, ← ic_push]; exact ho, oV := h.oV.kept hg h.aLV.symm, oI := h.oI.kept hg h.aLI.symm, aLV := (h.aLV.symm.new h.oV hat).symm, aLI := (h.aLI.symm.new h.oI hat).symm, aVI := h.aVI }
theorem Rows3.pushV (h : Rows3 W base w L ls V vs I is) (hg : w.grownBy w' V.ownBlock) (ho : w'.ownsRow base 3 1 V' (vs.length + 1) (ic vs ++ [.int .i64 x])) (hat : V'.ownBlock = V.ownBlock ∨ V'.ownBlock = some w.heap.size) : Rows3 W base w' L ls V' (vs ++ [x]) I is :=
  { bel := h.bel.grown hg h.sz fun k hk => (h.oV.lt k hk).1, sz := Nat.le_trans h.sz hg.size, sW := Nat.le_trans h.sW hg.size, oL := h.oL.kept hg h.aLV, oV := by rw [List.length_append, ← ic_push]; exact ho, oI := h.oI.kept hg h.aVI.symm, aLV := h.aLV.new h.oL hat, aLI := h.aLI, aVI := (h.aVI.symm.new h.oI hat).symm }
theorem Rows3.pushI (h : Rows3 W base w L ls V vs I is) (hg : w.grownBy w' I.ownBlock) (ho : w'.ownsRow base 3 1 I' (is.length + 1) (ic is ++ [.int .i64 x])) (hat : I'.ownBlock = I.ownBlock ∨ I'.ownBlock = some w.heap.size) : Rows3 W base w' L ls V vs I' (is ++ [x]) :=
  { bel := h.bel.grown hg h.sz fun k hk => (h.oI.lt k hk).1, sz := Nat.le_trans h.sz hg.size, sW := Nat.le_trans h.sW hg.size, oL := h.oL.kept hg h.aLI, oV := h.oV.kept hg h.aVI, oI := by rw [List.length_append, ← ic_push]; exact ho, aLV := h.aLV, aLI := h.aLI.new h.oL hat, aVI := h.aVI.new h.oV hat }
theorem Rows3.nil (W : World) (base : Nat) (h : base ≤ W.heap.size) : Rows3 W base W (.slice none 0 0) [] (.slice none 0 0) [] (.slice none 0 0) [] :=
  { bel := Below.refl _ _, sz := h, sW := Nat.le_refl _, oL := World.ownsRow_nil _ _ _ _, oV := World.ownsRow_nil _ _ _ _, oI := World.ownsRow_nil _ _ _ _, aLV := .inl rfl, aLI := .inl rfl, aVI := .inl rfl }
theorem own_set' {W : World} {B s n : Nat} {e : TypeId} {v u : Value} {xs : List Value} {p : Addr} (h : W.ownsRow B e s v n xs) (hp : v.ownBlock ≠ some p.block) : (W.setCell p u).ownsRow B e s v n xs := by
  rcases h.2 with ⟨rfl, h0⟩ | ⟨g, cap, cur, rfl, hb, hg, hh⟩
  · exact ⟨h.1, .inl ⟨rfl, h0⟩⟩
  · exact ⟨h.1, .inr ⟨g, cap, cur, rfl, hb, (Below.heap_setCell _ _ _ _ (fun e => hp (by rw [← e]; rfl))).trans hg, hh⟩⟩
theorem own_base {W : World} {B B' s n : Nat} {e : TypeId} {v : Value} {xs : List Value} (h : W.ownsRow B e s v n xs) (hb : B' ≤ B) : W.ownsRow B' e s v n xs :=
  ⟨h.1, h.2.imp id fun ⟨g, cap, cur, h1, h2, h3⟩ => ⟨g, cap, cur, h1, Nat.le_trans hb h2, h3⟩⟩
theorem own_low {W : World} {B s n : Nat} {e : TypeId} {v : Value} {xs : List Value} (h : W.ownsRow B e s v n xs) {g : Nat} (hg : W.heap.size ≤ g ∨ g < B) : v.ownBlock ≠ some g := fun hv => by
  have := h.lt g hv; omega
theorem src_of {W : World} {H size : Nat} {T : TypeId} {vals : List Value} (hH : W.heap[H]? = some (.cells vals.toArray T (0, 0))) (hl : vals.length = size) (h1 : ∀ u ∈ vals, u.oneCell' = true) : SrcAt W (some ⟨H, 0, none⟩) 1 1 size vals where
  none := fun e => nomatch e
  len := by omega
  cells := fun ad e => by cases e; exact cells_of_block hH
  one := h1
theorem four_one {x y z u : Value} (h0 : x.oneCell' = true) (h1 : y.oneCell' = true) (h2 : z.oneCell' = true) (h3 : u.oneCell' = true) : ∀ v ∈ [x, y, z, u], v.oneCell' = true := by intro v hv; simp at hv; rcases hv with rfl | rfl | rfl | rfl <;> assumption
theorem Moves.grownTo {W W' : World} {v v' : Value} {lo : Nat} (hg : W.grownBy W' v.ownBlock) (hat : v'.ownBlock = v.ownBlock ∨ v'.ownBlock = some W.heap.size) :
    Moves W W' (fun b => b < lo ∨ v.ownBlock = some b) (fun b => b < lo ∨ v'.ownBlock = some b) :=
  Moves.grown hg (fun b h => .inr h) fun b hb h => by
    rcases h with h | h
    · exact .inl h
    · rcases hat with e | e
      · exact .inr (e ▸ h)
      · rw [e] at h; cases h; omega
theorem Boxed.low {w w' : World} {b B : Nat} {t : Tsk} {p : Lies} (h : Boxed w b t p) (k : Below B w w') (hb : b < B) : Boxed w' b t p :=
  ⟨Nat.lt_of_lt_of_le h.lt k.size, (k.cell (p := ⟨b, 0, none⟩) hb).trans h.c0, (k.cell (p := ⟨b, 1, none⟩) hb).trans h.c1, (k.cell (p := ⟨b, 2, none⟩) hb).trans h.c2, (k.cell (p := ⟨b, 3, none⟩) hb).trans h.c3⟩
theorem Boxed.far {w : World} {b : Nat} {t : Tsk} {p : Lies} (h : Boxed w b t p) {q : Addr} (u : Value) (hne : b ≠ q.block) : Boxed (w.setCell q u) b t p :=
  have e : ∀ k, (w.setCell q u).cell? ⟨b, k, none⟩ = w.cell? ⟨b, k, none⟩ := fun k => World.cell?_of_block (w := w) (a := ⟨b, k, none⟩) (Below.heap_setCell _ _ _ _ hne)
  ⟨by simpa [World.setCell] using h.lt, (e 0).trans h.c0, (e 1).trans h.c1, (e 2).trans h.c2, (e 3).trans h.c3⟩
/-- The block of one number that is to be appended. -/
structure Src1 (lo : Nat) (w : World) (h : Nat) (x : Int) : Prop where
  ge : lo ≤ h
  lt : h < w.heap.size
  at_ : w.heap[h]? = some (.cells #[.int .i64 x] 3 (0, 0))
theorem Rows3.src (h : Rows3 W base w L ls V vs I is) (x : Int) : Src1 W.heap.size (w.alloc (.cells #[.int .i64 x] 3)) w.heap.size x := ⟨h.sW, by simp, heap_alloc_new _ _⟩
theorem Src1.alloc {lo g : Nat} (h : Src1 lo w g x) (o : Obj) : Src1 lo (w.alloc o) g x :=
  ⟨h.ge, by have := h.lt; simp; omega, ((World.grownBy_alloc w o none).block g h.lt (by simp)).trans h.at_⟩
theorem Src1.drew {lo g : Nat} (h : Src1 lo w g x) : Src1 lo w.drew g x := ⟨h.ge, h.lt, h.at_⟩
theorem Src1.grown {lo g : Nat} (h : Src1 lo w g x) {row : Option Nat} (hg : w.grownBy w' row) (hr : ∀ k, row = some k → k < lo) : Src1 lo w' g x :=
  ⟨h.ge, Nat.lt_of_lt_of_le h.lt hg.size, (hg.block g h.lt (fun e => by have := hr g e.symm; have := h.ge; omega)).trans h.at_⟩
theorem Src1.src {lo g : Nat} (h : Src1 lo w g x) : SrcAt w (some ⟨g, 0, none⟩) 1 1 1 [.int .i64 x] where
  none := fun e => nomatch e
  len := rfl
  cells := fun ad e => by cases e; exact cells_of_block (news := [.int .i64 x]) h.at_
  one := by intro u hu; simp at hu; subst hu; rfl
end
end

section
open Go.RowKit

/-- A slice whose cells hold the values news (size cells an element). -/
structure SrcNt (w : World) (A : Option Addr) (m c size : Nat) (news : List Value) : Prop where
  none : A = none → m = 0
  len : news.length = m * size
  cells : ∀ ad, A = some ad → ∀ j u, news[j]? = some u → w.cell? (ad.add j) = some u
  one : ∀ u ∈ news, u.oneCell' = true

section
variable {P : Program} {w : World}
theorem run_append_none (base : Nat) (t ty e : TypeId) (i : TypeInfo) (size : Nat) (ht : P.underlying t = some (.slice e)) (hi : P.info? e = some i)
    (v : Value) (n : Nat) (xs : List Value) (hown : w.ownsRow base e size v n xs) (c : Nat) :
    (Builtin.append_ #[t, t] ty #[v, .slice none 0 c]).run P w = .ok v w := by
  rcases hown.2 with ⟨rfl, rfl⟩ | ⟨g, cap, cur, rfl, _, _, hnc, _⟩
  · simp [Builtin.append_, run_underlying ht, sizeOf, typeInfo, hi, Builtin.lenOf, Builtin.firstCells]
  · simp [Builtin.append_, run_underlying ht, sizeOf, typeInfo, hi, Builtin.lenOf, Builtin.firstCells, hnc, storeCells]
theorem grown_refl' (row : Option Nat) : w.grownBy w row := ⟨rfl, rfl, rfl, Nat.le_refl _, fun _ _ _ => rfl⟩

theorem wp_append_srn {o : Oper} {a : Act} {K : Act → World → Prop} {Q : Exit → Act → World → Prop} (s x : Operand) (t : TypeId)
    (ho : o.op = .call { callee := .builtin .append, args := #[s, x], argTypes := #[t, t] })
    (base : Nat) (e : TypeId) (i : TypeInfo) (z : Value) (size bytes : Nat) (ht : P.underlying t = some (.slice e)) (hi : P.info? e = some i) (hz : i.zero = some z)
    (hsize : i.size = size) (hby : i.bytes = bytes) (hzs : z.cells.size = size) (hsz : 0 < size)
    (v : Value) (n : Nat) (xs : List Value) (hs : a.eval s = v) (hown : w.ownsRow base e size v n xs)
    (A : Option Addr) (m c : Nat) (news : List Value) (hx : a.eval x = .slice A m c) (hsrc : SrcNt w A m c size news)
    (h63 : n + m ≤ maxLen) (hbytes : (n + m) * bytes ≤ 140737488355328) (hbase : base ≤ w.heap.size)
    (h : ∀ v' w', w'.ownsRow base e size v' (n + m) (xs ++ news) → w.grownBy w' v.ownBlock → (v'.ownBlock = v.ownBlock ∨ v'.ownBlock = some w.heap.size) → K (a.put o.dst v') w') : o.wp P a w K Q := by
  cases A with
  | none =>
    obtain rfl := hsrc.none rfl
    have hn : news = [] := List.length_eq_zero_iff.1 (by rw [hsrc.len]; simp)
    subst hn
    have hr := run_append_none (P := P) (w := w) base t o.type e i size ht hi v n xs hown c
    unfold Oper.wp execOp
    simp only [ho, resolve, invoke, builtin, Sem.run_bind, Sem.run_pure, Result.andThen_ok, List.map_toArray, List.map_cons, List.map_nil, hs, hx, hr]
    exact h v w (by simpa using hown) (grown_refl' _) (.inl rfl)
  | some ad =>
    obtain ⟨v', w', hr, h2, h3, _, h5⟩ := run_append_own_at (P := P) w base t o.type e i z size bytes ht hi hz hsize hby hzs hsz v n xs hown ad m c news hsrc.len (hsrc.cells ad rfl) hsrc.one h63 hbytes hbase
    unfold Oper.wp execOp
    simp only [ho, resolve, invoke, builtin, Sem.run_bind, Sem.run_pure, Result.andThen_ok, List.map_toArray, List.map_cons, List.map_nil, hs, hx, hr]
    exact h v' w' h2 h3 h5

theorem wpList_append_srn {ops : Array Oper} {rest : List Oper} {o : Oper} {a : Act} {Q : Exit → Act → World → Prop} (hgd : o.guard = .none) (s x : Operand) (t : TypeId)
    (ho : o.op = .call { callee := .builtin .append, args := #[s, x], argTypes := #[t, t] })
    (base : Nat) (e : TypeId) (i : TypeInfo) (z : Value) (size bytes : Nat) (ht : P.underlying t = some (.slice e)) (hi : P.info? e = some i) (hz : i.zero = some z)
    (hsize : i.size = size) (hby : i.bytes = bytes) (hzs : z.cells.size = size) (hsz : 0 < size)
    (v : Value) (n : Nat) (xs : List Value) (hs : a.eval s = v) (hown : w.ownsRow base e size v n xs)
    (A : Option Addr) (m c : Nat) (news : List Value) (hx : a.eval x = .slice A m c) (hsrc : SrcNt w A m c size news)
    (h63 : n + m ≤ maxLen) (hbytes : (n + m) * bytes ≤ 140737488355328) (hbase : base ≤ w.heap.size)
    (h : ∀ v' w', w'.ownsRow base e size v' (n + m) (xs ++ news) → w.grownBy w' v.ownBlock → (v'.ownBlock = v.ownBlock ∨ v'.ownBlock = some w.heap.size) → wpList P ops Q rest (a.put o.dst v') w') :
    wpList P ops Q (o :: rest) a w :=
  wpList_plain hgd fun _ hK => wp_append_srn s x t ho base e i z size bytes ht hi hz hsize hby hzs hsz v n xs hs hown A m c news hx hsrc h63 hbytes hbase fun v' w' h2 h3 h4 => hK _ _ (h v' w' h2 h3 h4)

theorem step_append_srn {ops : Array Oper} {o : Oper} {a : Act} {K : Act → World → Prop} {Q : Exit → Act → World → Prop} {E : Prop} (hgd : o.guard = .none) (s x : Operand) (t : TypeId)
    (ho : o.op = .call { callee := .builtin .append, args := #[s, x], argTypes := #[t, t] })
    (base : Nat) (e : TypeId) (i : TypeInfo) (z : Value) (size bytes : Nat) (ht : P.underlying t = some (.slice e)) (hi : P.info? e = some i) (hz : i.zero = some z)
    (hsize : i.size = size) (hby : i.bytes = bytes) (hzs : z.cells.size = size) (hsz : 0 < size)
    (v : Value) (n : Nat) (xs : List Value) (hs : a.eval s = v) (hown : w.ownsRow base e size v n xs)
    (A : Option Addr) (m c : Nat) (news : List Value) (hx : a.eval x = .slice A m c) (hsrc : SrcNt w A m c size news)
    (h63 : n + m ≤ maxLen) (hbytes : (n + m) * bytes ≤ 140737488355328) (hbase : base ≤ w.heap.size)
    (h : ∀ v' w', w'.ownsRow base e size v' (n + m) (xs ++ news) → w.grownBy w' v.ownBlock → (v'.ownBlock = v.ownBlock ∨ v'.ownBlock = some w.heap.size) → K (a.put o.dst v') w') :
    if Region.wanted o (yielded ops a.tmps) = true then Oper.wp P o a w K Q else E := by
  have hw : Region.wanted o (yielded ops a.tmps) = true := by simp [Region.wanted, hgd]
  rw [if_pos hw]
  exact wp_append_srn s x t ho base e i z size bytes ht hi hz hsize hby hzs hsz v n xs hs hown A m c news hx hsrc h63 hbytes hbase h
end

theorem fcl_len (l : List (Int × Int)) : (fcl l).length = l.length * 2 := by
  induction l with
  | nil => rfl
  | cons f l ih => show (_ :: _ :: fcl l).length = _; simp only [List.length_cons, ih]; omega
theorem fcl_at {l : List (Int × Int)} {j : Nat} {u : Value} (h : (fcl l)[j]? = some u) : ∃ k, k < l.length ∧ ((j = k * 2 ∧ u = .int .i64 (fv l k)) ∨ (j = k * 2 + 1 ∧ u = .int .i64 (fx l k))) := by
  have hj : j < (fcl l).length := (List.getElem?_eq_some_iff.1 h).1
  rw [fcl_len] at hj
  refine ⟨j / 2, by omega, ?_⟩
  obtain ⟨h1, h2⟩ := fcl_get l (j / 2) (by omega)
  rcases Nat.mod_two_eq_zero_or_one j with e | e
  · have e2 : j = j / 2 * 2 := by omega
    rw [← e2] at h1; rw [h1] at h; cases h; exact .inl ⟨e2, rfl⟩
  · have e2 : j = j / 2 * 2 + 1 := by omega
    rw [← e2] at h2; rw [h2] at h; cases h; exact .inr ⟨e2, rfl⟩
/-- Facts as a source. -/
theorem facts_srn {w : World} {B : Nat} {A : Option Addr} {l : List (Int × Int)} {c : Nat} (h : FactsAt w B A l) : SrcNt w A l.length c 2 (fcl l) where
  none := fun e => by
    rcases Nat.eq_zero_or_pos l.length with h0 | h0
    · exact h0
    · obtain ⟨b, off, e2, _⟩ := h.2 h0; rw [e] at e2; cases e2
  len := fcl_len l
  cells := fun ad e j u hj => by
    obtain ⟨k, hk, hu⟩ := fcl_at hj
    obtain ⟨b, off, e2, _, hc⟩ := h.2 (by omega)
    rw [e] at e2
    cases e2
    rcases hu with ⟨rfl, rfl⟩ | ⟨rfl, rfl⟩
    · have h1 := (hc k hk).1
      simp [Addr.add]
      split
      · rename_i h0; have : k = 0 := by omega
        subst this; simpa using h1
      · simpa using h1
    · have h1 := (hc k hk).2
      simpa [Addr.add, Nat.add_assoc] using h1
  one := fun u hu => by
    obtain ⟨j, hj, e⟩ := List.mem_iff_getElem.1 hu
    obtain ⟨k, hk, hh⟩ := fcl_at (l := l) (j := j) (u := u) (by rw [List.getElem?_eq_getElem hj, e])
    rcases hh with ⟨_, rfl⟩ | ⟨_, rfl⟩ <;> rfl
theorem src_ofN {W : World} {H size : Nat} {T : TypeId} {vals : List Value} (hH : W.heap[H]? = some (.cells vals.toArray T (0, 0))) (hl : vals.length = size) (h1 : ∀ u ∈ vals, u.oneCell' = true) : SrcNt W (some ⟨H, 0, none⟩) 1 1 size vals where
  none := fun e => nomatch e
  len := by omega
  cells := fun ad e => by
    cases e
    intro j u hj
    have h2 := cell_of_row W H j vals.toArray T (0, 0) hH
    rw [show vals.toArray[j]? = some u by simpa using hj] at h2
    simp only [Addr.add]
    split
    · rename_i h0; subst h0; exact h2
    · rw [Nat.zero_add]; exact h2
  one := h1
end

section
open Go.RowKit
set_option linter.unusedVariables false

/-- Row k of a list of rows. -/
def row (L : List (List Int)) (k : Nat) : List Int := L.getD k []
/-- The first j of the rows that L's rows make with m values more. -/
def nxL (L : List (List Int)) (m j : Nat) : List (List Int) := (List.range j).map fun j => row L (j / m) ++ [((j % m : Nat) : Int)]
theorem nxL_succ (L : List (List Int)) (m j : Nat) : nxL L m (j + 1) = nxL L m j ++ [row L (j / m) ++ [((j % m : Nat) : Int)]] := by unfold nxL; rw [List.range_succ, List.map_append]; rfl
theorem nxL_len (L : List (List Int)) (m j : Nat) : (nxL L m j).length = j := by unfold nxL; simp
theorem nxL_at (L : List (List Int)) {m j i x : Nat} (hx : x < m) (hj : j = i * m + x) : nxL L m (j + 1) = nxL L m j ++ [row L i ++ [(x : Int)]] := by
  rw [nxL_succ]
  subst hj
  rw [show (i * m + x) / m = i by rw [Nat.mul_comm, Nat.mul_add_div (by omega), Nat.div_eq_of_lt hx]; rfl, show (i * m + x) % m = x by rw [Nat.mul_comm, Nat.mul_add_mod, Nat.mod_eq_of_lt hx]]
theorem nxL_row (L : List (List Int)) {m n i x : Nat} (hx : x < m) (hn : i * m + x < n) : row (nxL L m n) (i * m + x) = row L i ++ [(x : Int)] := by
  unfold nxL
  show (List.map _ _).getD _ _ = _
  rw [List.getD_eq_getElem?_getD, List.getElem?_map, List.getElem?_range hn]
  show row L ((i * m + x) / m) ++ [(((i * m + x) % m : Nat) : Int)] = _
  rw [show (i * m + x) / m = i by rw [Nat.mul_comm, Nat.mul_add_div (by omega), Nat.div_eq_of_lt hx]; rfl, show (i * m + x) % m = x by rw [Nat.mul_comm, Nat.mul_add_mod, Nat.mod_eq_of_lt hx]]
/-- The states of the first k variables. -/
def stN (vars : List Int) : Nat → List (List Int)
  | 0 => [[]]
  | k + 1 => nxL (stN vars k) (nth vars k).toNat ((stN vars k).length * (nth vars k).toNat)
def sts (vars : List Int) : List (List Int) := stN vars vars.length
theorem nth_app2 {a b : List Int} {i : Nat} (h : i < a.length) : nth (a ++ b) i = nth a i := by unfold nth; simp [List.getD, List.getElem?_append_left h]
theorem nth_end2 {a : List Int} {x : Int} : nth (a ++ [x]) a.length = x := by unfold nth; simp [List.getD]
theorem rk_cong {vars s s' : List Int} : ∀ {k : Nat}, (∀ v, v < k → nth s v = nth s' v) → rk vars s k = rk vars s' k
  | 0, _ => rfl
  | k + 1, h => by
    show rk vars s k * nth vars k + nth s k = rk vars s' k * nth vars k + nth s' k
    rw [rk_cong (k := k) (fun v hv => h v (by omega)), h k (by omega)]
section
variable {vars : List Int}
theorem stN_len (h : ∀ k, k < vars.length → 1 ≤ nth vars k) : ∀ k, k ≤ vars.length → ((stN vars k).length : Int) = pr vars k
  | 0, _ => rfl
  | k + 1, hk => by
    have ih := stN_len h k (by omega)
    have h1 := h k (by omega)
    show ((nxL _ _ _).length : Int) = pr vars k * nth vars k
    rw [nxL_len, ← ih]
    push_cast
    rw [show ((nth vars k).toNat : Int) = nth vars k by omega]
/-- Row i is a state of the first k variables, its rank i. -/
theorem stN_row (h : ∀ k, k < vars.length → 1 ≤ nth vars k) : ∀ k, k ≤ vars.length → ∀ i, i < (stN vars k).length →
    (row (stN vars k) i).length = k ∧ (∀ v, v < k → 0 ≤ nth (row (stN vars k) i) v ∧ nth (row (stN vars k) i) v < nth vars v) ∧ rk vars (row (stN vars k) i) k = (i : Int)
  | 0, _ => fun i hi => by
    have : i = 0 := by simp [stN] at hi; omega
    subst this
    exact ⟨rfl, fun v hv => absurd hv (by omega), rfl⟩
  | k + 1, hk => fun i hi => by
    have h1 := h k (by omega)
    obtain ⟨m, hm⟩ : ∃ m, m = (nth vars k).toNat := ⟨_, rfl⟩
    have hm1 : (m : Int) = nth vars k := by omega
    have hs : stN vars (k + 1) = nxL (stN vars k) m ((stN vars k).length * m) := by rw [hm]; rfl
    rw [hs, nxL_len] at hi
    have hmp : 0 < m := by omega
    have hi2 : i / m < (stN vars k).length := Nat.div_lt_of_lt_mul (by rw [Nat.mul_comm]; exact hi)
    have hx : i % m < m := Nat.mod_lt _ hmp
    have hd : i / m * m + i % m = i := by rw [Nat.mul_comm]; exact Nat.div_add_mod i m
    obtain ⟨a1, a2, a3⟩ := stN_row h k (by omega) (i / m) hi2
    have hr : row (stN vars (k + 1)) i = row (stN vars k) (i / m) ++ [((i % m : Nat) : Int)] := by
      have := nxL_row (stN vars k) (m := m) (n := (stN vars k).length * m) (i := i / m) hx (by rw [hd]; exact hi)
      rw [hd] at this
      rw [hs]; exact this
    generalize i / m = q at *
    generalize i % m = x at *
    rw [hr]
    refine ⟨by simp [a1], fun v hv => ?_, ?_⟩
    · by_cases e : v < k
      · rw [nth_app2 (by omega)]; exact a2 v e
      · have : v = (row (stN vars k) q).length := by omega
        subst this
        rw [nth_end2, a1]; omega
    · have e1 : rk vars (row (stN vars k) q ++ [(x : Int)]) k = (q : Int) := by
        rw [← a3]; exact rk_cong fun v hv => nth_app2 (by omega)
      have e2 : nth (row (stN vars k) q ++ [(x : Int)]) k = (x : Int) := by
        have := nth_end2 (a := row (stN vars k) q) (x := (x : Int))
        rwa [a1] at this
      show rk vars _ k * nth vars k + nth _ k = _
      rw [e1, e2, ← hm1, ← hd]
      push_cast
      rfl
/-- A state's rank is its place. -/
theorem stN_rk (h : ∀ k, k < vars.length → 1 ≤ nth vars k) {s : List Int} (hs : StP vars s) : ∀ k, k ≤ vars.length → row (stN vars k) (rk vars s k).toNat = s.take k
  | 0, _ => rfl
  | k + 1, hk => by
    have h1 := h k (by omega)
    have ih := stN_rk h hs k (by omega)
    have hb := rk_bd (vars := vars) (s := s) (n := k) fun v hv => hs.2 v (by rw [hs.1]; omega)
    have hl := stN_len h k (by omega)
    have hx := hs.2 k (by rw [hs.1]; omega)
    obtain ⟨m, hm⟩ : ∃ m, m = (nth vars k).toNat := ⟨_, rfl⟩
    have hm1 : (m : Int) = nth vars k := by omega
    obtain ⟨q, hq⟩ : ∃ q : Nat, rk vars s k = (q : Int) := ⟨(rk vars s k).toNat, by omega⟩
    obtain ⟨x, hx2⟩ : ∃ x : Nat, nth s k = (x : Int) := ⟨(nth s k).toNat, by omega⟩
    rw [hx2] at hx
    have e1 : (rk vars s (k + 1)).toNat = q * m + x := by
      have : rk vars s (k + 1) = rk vars s k * nth vars k + nth s k := rfl
      rw [this, hq, hx2, ← hm1, show (q : Int) * (m : Int) + (x : Int) = ((q * m + x : Nat) : Int) by push_cast; rfl]
      rfl
    have hql : q < (stN vars k).length := by omega
    have hqm : q * m + x < (stN vars k).length * m := by
      have h3 : (q + 1) * m ≤ (stN vars k).length * m := Nat.mul_le_mul_right _ hql
      rw [Nat.add_mul] at h3
      omega
    rw [e1, show stN vars (k + 1) = nxL (stN vars k) m ((stN vars k).length * m) by rw [hm]; rfl, nxL_row _ (by omega) hqm]
    rw [hq] at ih
    have ih' : row (stN vars k) q = s.take k := by simpa using ih
    rw [ih']
    have hkl : k < s.length := by rw [hs.1]; omega
    rw [← List.take_append_getElem hkl]
    have hxx : s[k] = (x : Int) := by rw [← hx2]; unfold nth; simp [List.getD, List.getElem?_eq_getElem hkl]
    rw [hxx]
end
section
variable {t : Tsk}
theorem dom1 (hr : Right t) : ∀ k, k < t.vars.length → 1 ≤ nth t.vars k := fun k hk => (hr.dom k hk).1
theorem sts_len (hr : Right t) : ((sts t.vars).length : Int) = pr t.vars t.vars.length := stN_len (dom1 hr) _ (Nat.le_refl _)
theorem sts_st (hr : Right t) {i : Nat} (hi : i < (sts t.vars).length) : stB t.vars (row (sts t.vars) i) = true := by
  obtain ⟨h1, h2, _⟩ := stN_row (dom1 hr) t.vars.length (Nat.le_refl _) i hi
  unfold stB
  simp only [decide_eq_true_eq]
  exact ⟨h1, fun k hk => h2 k (by rw [← h1]; exact hk)⟩
theorem sts_rk (hr : Right t) {i : Nat} (hi : i < (sts t.vars).length) : rk t.vars (row (sts t.vars) i) t.vars.length = (i : Int) := (stN_row (dom1 hr) t.vars.length (Nat.le_refl _) i hi).2.2
/-- The number of a state. -/
def num (t : Tsk) (s : List Int) : Nat := (rk t.vars s t.vars.length).toNat
theorem num_eq (hr : Right t) {s : List Int} (hs : stB t.vars s = true) : rk t.vars s t.vars.length = (num t s : Int) ∧ num t s < (sts t.vars).length := by
  have hs' : StP t.vars s := by unfold stB at hs; simpa using hs
  have hb := rk_bd (vars := t.vars) (s := s) (n := t.vars.length) fun v hv => hs'.2 v (by rw [hs'.1]; exact hv)
  have hl := sts_len hr
  unfold num
  omega
theorem sts_num (hr : Right t) {s : List Int} (hs : stB t.vars s = true) : row (sts t.vars) (num t s) = s := by
  have hs' : StP t.vars s := by unfold stB at hs; simpa using hs
  have := stN_rk (dom1 hr) hs' t.vars.length (Nat.le_refl _)
  rw [show s.take t.vars.length = s by rw [← hs'.1]; simp] at this
  exact this
theorem num_row (hr : Right t) {i : Nat} (hi : i < (sts t.vars).length) : num t (row (sts t.vars) i) = i := by
  have := sts_rk hr hi
  unfold num
  rw [this]; rfl
/-- The edges: by state, by operator. -/
def egO (t : Tsk) (s : List Int) (i j : Nat) : List (Nat × Nat × Nat) := (List.range j).filterMap fun op => if hoB (opr t.ops op).pre s then some (i, op, num t (nxt t s op)) else none
def egN (t : Tsk) (i : Nat) : List (Nat × Nat × Nat) := (List.range i).flatMap fun i => egO t (row (sts t.vars) i) i t.ops.length
def edges (t : Tsk) : List (Nat × Nat × Nat) := egN t (sts t.vars).length
theorem egO_yes {s : List Int} {i j : Nat} (h : hoB (opr t.ops j).pre s = true) : egO t s i (j + 1) = egO t s i j ++ [(i, j, num t (nxt t s j))] := by unfold egO; rw [List.range_succ, List.filterMap_append]; simp [h]
theorem egO_no {s : List Int} {i j : Nat} (h : hoB (opr t.ops j).pre s = false) : egO t s i (j + 1) = egO t s i j := by unfold egO; rw [List.range_succ, List.filterMap_append]; simp [h]
theorem egO_zero (s : List Int) (i : Nat) : egO t s i 0 = [] := rfl
theorem egN_succ (i : Nat) : egN t (i + 1) = egN t i ++ egO t (row (sts t.vars) i) i t.ops.length := by unfold egN; rw [List.range_succ, List.flatMap_append]; simp
theorem egO_len (s : List Int) (i j : Nat) : (egO t s i j).length ≤ j := by
  unfold egO
  have := List.length_filterMap_le (fun op => if hoB (opr t.ops op).pre s then some (i, op, num t (nxt t s op)) else none) (List.range j)
  simpa using this
theorem egN_len : ∀ i, (egN t i).length ≤ i * t.ops.length
  | 0 => Nat.zero_le _
  | i + 1 => by
    rw [egN_succ, List.length_append]
    have h1 := egN_len i
    have h2 := egO_len (t := t) (row (sts t.vars) i) i t.ops.length
    have h3 : (i + 1) * t.ops.length = i * t.ops.length + t.ops.length := Nat.succ_mul _ _
    omega
def egd (l : List (Nat × Nat × Nat)) (k : Nat) : Nat × Nat × Nat := l.getD k (0, 0, 0)
theorem egd_mem {l : List (Nat × Nat × Nat)} {k : Nat} (h : k < l.length) : egd l k ∈ l := by unfold egd; simp [List.getD, List.getElem?_eq_getElem h]
theorem mem_egd {l : List (Nat × Nat × Nat)} {e : Nat × Nat × Nat} (h : e ∈ l) : ∃ k, k < l.length ∧ egd l k = e := by
  obtain ⟨k, hk, rfl⟩ := List.mem_iff_getElem.1 h
  exact ⟨k, hk, by unfold egd; simp [List.getD, List.getElem?_eq_getElem hk]⟩
theorem mem_edges {e : Nat × Nat × Nat} : e ∈ edges t ↔ e.1 < (sts t.vars).length ∧ e.2.1 < t.ops.length ∧ hoB (opr t.ops e.2.1).pre (row (sts t.vars) e.1) = true ∧ e.2.2 = num t (nxt t (row (sts t.vars) e.1) e.2.1) := by
  obtain ⟨i, op, j⟩ := e
  unfold edges egN egO
  simp only [List.mem_flatMap, List.mem_range, List.mem_filterMap]
  constructor
  · rintro ⟨i', hi, op', hop, h⟩
    split at h
    · rename_i hh
      simp only [Option.some.injEq, Prod.mk.injEq] at h
      obtain ⟨rfl, rfl, rfl⟩ := h
      exact ⟨hi, hop, hh, rfl⟩
    · cases h
  · rintro ⟨h1, h2, h3, h4⟩
    refine ⟨i, h1, op, h2, ?_⟩
    rw [if_pos h3]
    exact congrArg some (Prod.ext rfl (Prod.ext rfl h4.symm))
end
end

section
open Go.RowKit
set_option linter.unusedVariables false

theorem pr_full {l : List Int} {k : Nat} (h : ∀ k, k < l.length → 1 ≤ nth l k ∧ nth l k ≤ 64) (hk : k ≤ l.length) : 1 ≤ pr l k ∧ pr l k ≤ pr l l.length :=
  ⟨pr_pos fun j hj => (h j (by omega)).1, pr_mono (fun j hj => (h j hj).1) hk⟩

set_option maxHeartbeats 1000000 in
theorem brank_any (vars s : List Int) (A1 A2 : Option Addr) (c1 c2 : Nat) (w : World) (h1 : IntsAt w w.heap.size A1 vars) (h2 : IntsAt w w.heap.size A2 s) (hst : StP vars s) (hv : ∀ k, k < vars.length → 1 ≤ nth vars k ∧ nth vars k ≤ 64) (hp : pr vars vars.length ≤ 65536) :
    Calls Try.prog 74 #[.slice A1 vars.length c1, .slice A2 s.length c2] w fun e w' => e = .returned (.int .i64 (rk vars s s.length)) ∧ Below w.heap.size w w' := by
  have l1 := h1.len
  have l2 := h2.len
  have Hv := Lib.hid hv
  have Hst := Lib.hid hst
  have Hp := Lib.hid hp
  clear hv hst hp
  go_enter Try.func74, Try.ntmps74
  go_wp2
  go_loopw [5, 9] (fun n i wr => ∃ k : Nat, k ≤ s.length ∧ i = .int .i64 k ∧ n = .int .i64 (rk vars s k) ∧ Below w.heap.size w wr) (fun _ i _ => s.length - (intOf i).toNat)
  case atStart => exact ⟨0, by omega, rfl, rfl, by repeat (first | exact Below.refl _ _ | refine below_dN ?_ _ | refine Below.drew ?_ | refine Below.alloc ?_ (by first | omega | (simp; done) | (simp; omega)) _ | refine Below.setCell ?_ (by first | omega | (simp; done) | (simp; omega)) _ | refine below_step (by assumption) (by first | omega | (simp; done) | (simp; omega)) ?_)⟩
  case round =>
    obtain ⟨k, hk, rfl, rfl, hbel⟩ := hrel
    by_cases hlt : k < s.length
    · have hlt2 : k < vars.length := by have := Hst.out.1; omega
      obtain ⟨b1, o1, rfl, hb1, hc1⟩ := h1.at_ hlt2
      obtain ⟨b2, o2, rfl, hb2, hc2⟩ := h2.at_ hlt
      have d1 := (hbel.cell (p := ⟨b1, o1 + k, none⟩) hb1).trans (hc1 k hlt2)
      have d2 := (hbel.cell (p := ⟨b2, o2 + k, none⟩) hb2).trans (hc2 k hlt)
      clear hc1 hc2
      have g1 : (k : Int) < vars.length := by omega
      have g2 : (k : Int) < s.length := by omega
      have ha := rk_bd (vars := vars) (s := s) (n := k) fun j hj => Hst.out.2 j (by omega)
      have hb := rk_bd (vars := vars) (s := s) (n := k + 1) fun j hj => Hst.out.2 j (by omega)
      have hm := (pr_full Hv.out (show k + 1 ≤ vars.length by omega)).2
      have hs := Hst.out.2 k hlt
      have hq := Hp.out
      have He := Lib.hid (show rk vars s (k + 1) = rk vars s k * nth vars k + nth s k from rfl)
      have m0 : 0 ≤ rk vars s k * nth vars k := Int.mul_nonneg ha.1 (by omega)
      rw [He.out] at hb
      have x1 : IntKind.i64.wrap (rk vars s k * nth vars k) = rk vars s k * nth vars k := IntWalk.i64_in _ (by omega)
      have x2 : IntKind.i64.wrap (rk vars s k * nth vars k + nth s k) = rk vars s k * nth vars k + nth s k := IntWalk.i64_in _ (by omega)
      clear ha hb hm hs hq
      go_wp2_with fail
      go_quiet (fail)
      clear x1 x2
      go_wp2
      go_roundw
      case rel => exact ⟨k + 1, by omega, by go_num, by rw [He.out], by repeat (first | exact Below.refl _ _ | refine below_dN ?_ _ | refine Below.drew ?_ | refine Below.alloc ?_ (by first | omega | (simp; done) | (simp; omega)) _ | refine Below.setCell ?_ (by first | omega | (simp; done) | (simp; omega)) _ | refine below_step (by assumption) (by first | omega | (simp; done) | (simp; omega)) ?_)⟩
      case measure => simp [intOf]; omega
    · obtain rfl : k = s.length := by omega
      go_wp2
      go_ret
      exact ⟨rfl, by repeat (first | exact Below.refl _ _ | refine below_dN ?_ _ | refine Below.drew ?_ | refine Below.alloc ?_ (by first | omega | (simp; done) | (simp; omega)) _ | refine Below.setCell ?_ (by first | omega | (simp; done) | (simp; omega)) _ | refine below_step (by assumption) (by first | omega | (simp; done) | (simp; omega)) ?_)⟩
end

section
open Go Go.RowKit
set_option linter.unusedVariables false

/-- Rows of numbers, done: a slice of slices. -/
def RowsAt (w : World) (B : Nat) (A : Option Addr) (L : List (List Int)) : Prop :=
  0 < L.length → ∃ b, A = some ⟨b, 0, none⟩ ∧ b < B ∧ ∀ k, k < L.length → ∃ S c, w.cell? ⟨b, k, none⟩ = some (.slice S (row L k).length c) ∧ (S = none → c = 0) ∧ IntsAt w B S (row L k)
def GotRows (w : World) (v : Value) (L : List (List Int)) : Prop := ∃ A c, v = .slice A L.length c ∧ RowsAt w w.heap.size A L
/-- A row that lies at the beginning of a block of numbers. -/
def RwI (w : World) (S : Option Addr) (l : List Int) : Prop := l.length ≤ 1000 ∧ (0 < l.length → ∃ b, S = some ⟨b, 0, none⟩ ∧ rowGe w b 3 l.length (fun i => .int .i64 (nth l i)))
def RwS (w : World) (xs : List Value) (L : List (List Int)) : Prop := ∀ k, k < L.length → ∃ S c, xs[k]? = some (.slice S (row L k).length c) ∧ (S = none → c = 0) ∧ RwI w S (row L k)
/-- Rows being gathered. -/
def Bld (w : World) (base : Nat) (v : Value) (L : List (List Int)) : Prop := ∃ xs, w.ownsRow base 38 1 v L.length xs ∧ RwS w xs L
section
variable {w w' : World} {base : Nat} {v v' : Value} {L : List (List Int)} {xs : List Value}
theorem RowsAt.up {A : Option Addr} (h : RowsAt w w.heap.size A L) (hb : Below w.heap.size w w') : RowsAt w' w'.heap.size A L := fun h0 => by
  obtain ⟨b, e, hlt, hc⟩ := h h0
  refine ⟨b, e, Nat.lt_of_lt_of_le hlt hb.size, fun k hk => ?_⟩
  obtain ⟨S, c, h1, h2, h3⟩ := hc k hk
  exact ⟨S, c, (hb.cell (p := ⟨b, k, none⟩) hlt).trans h1, h2, h3.up hb⟩
theorem GotRows.up (h : GotRows w v L) (hb : Below w.heap.size w w') : GotRows w' v L := by
  obtain ⟨A, c, e, h⟩ := h
  exact ⟨A, c, e, h.up hb⟩
theorem RwI.of {S : Option Addr} {l : List Int} (h : RwI w S l) (hb : ∀ b n f, rowGe w b 3 n f → rowGe w' b 3 n f) : RwI w' S l := ⟨h.1, fun h0 => by
  obtain ⟨b, e, hr⟩ := h.2 h0
  exact ⟨b, e, hb _ _ _ hr⟩⟩
theorem RwS.of (h : RwS w xs L) (hb : ∀ b n f, rowGe w b 3 n f → rowGe w' b 3 n f) : RwS w' xs L := fun k hk => by
  obtain ⟨S, c, h1, h2, h3⟩ := h k hk
  exact ⟨S, c, h1, h2, h3.of hb⟩
theorem RwS.up (h : RwS w xs L) (hb : Below w.heap.size w w') : RwS w' xs L := h.of fun _ _ _ hr => hr.up hb
theorem Bld.nil (w : World) (base : Nat) : Bld w base (.slice none 0 0) [] := ⟨[], World.ownsRow_nil _ _ _ _, fun k hk => absurd hk (by simp)⟩
theorem Bld.up (h : Bld w base v L) (hb : Below w.heap.size w w') : Bld w' base v L := by
  obtain ⟨xs, h1, h2⟩ := h
  exact ⟨xs, own_below h1 hb, h2.up hb⟩
theorem row_left {a b : List (List Int)} {k : Nat} (h : k < a.length) : row (a ++ b) k = row a k := by unfold row; simp [List.getD, List.getElem?_append_left h]
theorem row_last {a : List (List Int)} {l : List Int} : row (a ++ [l]) a.length = l := by unfold row; simp [List.getD]
theorem bld_push {S : Option Addr} {c : Nat} {l : List Int} (hown : w.ownsRow base 38 1 v L.length xs) (hr : RwS w xs L) (hS : S = none → c = 0) (hl : RwI w S l) (hg : w.grownBy w' v.ownBlock) (hown' : w'.ownsRow base 38 1 v' (L.length + 1) (xs ++ [.slice S l.length c])) : Bld w' base v' (L ++ [l]) := by
  have key : ∀ b n f, rowGe w b 3 n f → rowGe w' b 3 n f := fun b n f h => h.grown hg (h.ne hown (by decide))
  refine ⟨_, by rw [List.length_append]; exact hown', fun k hk => ?_⟩
  have hxl : xs.length = L.length := by have := hown.1; simpa using this
  by_cases e : k < L.length
  · obtain ⟨S', c', h1, h2, h3⟩ := hr k e
    rw [row_left e]
    exact ⟨S', c', by rw [List.getElem?_append_left (by omega)]; exact h1, h2, h3.of key⟩
  · have : k = L.length := by simp at hk; omega
    subst this
    rw [row_last]
    exact ⟨S, c, by rw [← hxl, List.getElem?_append_right (Nat.le_refl _)]; simp, hS, hl.of key⟩
theorem Bld.done (h : Bld w base v L) : GotRows w v L := by
  obtain ⟨xs, hown, hr⟩ := h
  have hxl : xs.length = L.length := by have := hown.1; simpa using this
  obtain ⟨A, c, rfl, hA⟩ := rowGe_own hown (fun k => xs.getD k (.slice none 0 0)) fun i hi => by simp [List.getD, List.getElem?_eq_getElem (show i < xs.length by omega)]
  refine ⟨A, c, rfl, fun h0 => ?_⟩
  obtain ⟨g, e, hg, hrow⟩ := hA h0
  refine ⟨g, e, hrow.lt, fun k hk => ?_⟩
  obtain ⟨S, d, h1, h2, h3⟩ := hr k hk
  refine ⟨S, d, by rw [hrow.cell hk]; simp [List.getD, h1], h2, by have := h3.1; omega, fun hp => ?_⟩
  obtain ⟨b, e2, hb⟩ := h3.2 hp
  exact ⟨b, 0, e2, hb.lt, fun i hi => by simpa using hb.cell hi⟩
end
theorem infoIs : (Try.prog.info? 38).map (fun i => (i.zero, i.size, i.bytes)) = some (some (.slice none 0 0), 1, 24) := by kernel_rfl
theorem undIs : Try.prog.underlying 52 = some (.slice 38) := by kernel_rfl
theorem infoI6 : (Try.prog.info? 3).map (fun i => (i.zero, i.size, i.bytes)) = some (some (.int .i64 0), 1, 8) := by kernel_rfl
theorem undI6 : Try.prog.underlying 38 = some (.slice 3) := by kernel_rfl
theorem src_keep {w w1 : World} {A : Option Addr} {m c size : Nat} {news : List Value} (h : SrcAt w A m c size news) (hk : ∀ ad, A = some ad → ∀ j u, news[j]? = some u → w1.cell? (ad.add j) = w.cell? (ad.add j)) : SrcAt w1 A m c size news where
  none := h.none
  len := h.len
  cells := fun ad e j u hj => (hk ad e j u hj).trans (h.cells ad e j u hj)
  one := h.one
theorem grown_fresh {w w' : World} {v : Value} {B : Nat} (hg : w.grownBy w' v.ownBlock) (h : ∀ g, v.ownBlock = some g → B ≤ g) (hB : B ≤ w.heap.size) : Below B w w' := (Below.refl _ _).grown hg hB h

set_option maxRecDepth 100000 in
set_option maxHeartbeats 16000000 in
theorem bstates_any (vars : List Int) (A : Option Addr) (c : Nat) (w : World) (hv : IntsAt w w.heap.size A vars) (hd : ∀ k, k < vars.length → 1 ≤ nth vars k ∧ nth vars k ≤ 64) (hp : pr vars vars.length ≤ 65536) (hn : vars.length ≤ 64) :
    Calls Try.prog 19 #[.slice A vars.length c] w fun e w' => (∃ v, e = .returned v ∧ GotRows w' v (sts vars)) ∧ Below w.heap.size w w' := by
  obtain ⟨inf, hi, iz0, iz1, iz2⟩ := info_parts infoI6
  obtain ⟨ing, hj, jz0, jz1, jz2⟩ := info_parts infoIs
  have HD := Lib.hid hd
  have HP := Lib.hid hp
  clear hd hp
  go_enter Try.func19, Try.ntmps19
  go_wp2
  go_loopw [3, 14] (fun o i wr => ∃ (k : Nat), k ≤ vars.length ∧ i = .int .i64 k ∧ GotRows wr o (stN vars k) ∧ Below w.heap.size w wr) (fun _ i _ => vars.length - (intOf i).toNat)
  case atStart =>
    refine ⟨0, by omega, rfl, ⟨_, _, rfl, fun _ => ⟨w.heap.size + 1, rfl, by simp, fun k hk => ?_⟩⟩, by repeat (first | exact Below.refl _ _ | refine below_dN ?_ _ | refine Below.drew ?_ | refine Below.alloc ?_ (by first | omega | (simp; done) | (simp; omega)) _ | refine Below.setCell ?_ (by first | omega | (simp; done) | (simp; omega)) _ | refine below_step (by assumption) (by first | omega | (simp; done) | (simp; omega)) ?_)⟩
    have : k = 0 := by simp [stN] at hk; omega
    subst this
    exact ⟨some ⟨w.heap.size, 0, none⟩, 0, by simp [stN, row, World.cell?_alloc_at], (fun e => nomatch e), by simp [stN, row], fun h => absurd h (by simp [stN, row])⟩
  case round =>
    obtain ⟨k, hk, rfl, ⟨O, d, rfl, hrows⟩, hbel⟩ := hrel
    have hbz := hbel.size
    obtain ⟨wb, rfl⟩ : ∃ wb : World, wb = wr := ⟨_, rfl⟩
    by_cases hlt : k < vars.length
    · obtain ⟨b1, o1, rfl, hb1, hc1⟩ := hv.at_ hlt
      have d1 := (hbel.cell (p := ⟨b1, o1 + k, none⟩) hb1).trans (hc1 k hlt)
      clear hc1
      have hdk := HD.out k hlt
      have g1 : b1 < wb.heap.size := by omega
      obtain ⟨m, hm⟩ : ∃ m : Nat, nth vars k = (m : Int) := ⟨(nth vars k).toNat, by omega⟩
      have hS : stN vars (k + 1) = nxL (stN vars k) m ((stN vars k).length * m) := by
        show nxL _ (nth vars k).toNat (_ * (nth vars k).toNat) = _
        rw [hm]; rfl
      have hlen : (stN vars k).length * m ≤ 65536 := by
        have h1 := stN_len (fun k hk => (HD.out k hk).1) (k + 1) (by omega)
        have h2 := pr_mono (fun k hk => (HD.out k hk).1) (show k + 1 ≤ vars.length by omega)
        have h3 := HP.out
        rw [hS, nxL_len] at h1
        omega
      have hrl : ∀ i, i < (stN vars k).length → (row (stN vars k) i).length = k := fun i hi => (stN_row (fun k hk => (HD.out k hk).1) k (by omega) i hi).1
      have HS := Lib.hid hS
      rw [hm] at d1 hdk
      have Hrl := Lib.hid hrl
      generalize stN vars k = L at *
      clear hm hS hrl
      have hll : L.length ≤ 65536 := by
        have : L.length * 1 ≤ L.length * m := Nat.mul_le_mul_left _ (by omega)
        omega
      have Hlen := Lib.hid hlen
      have Hrows := Lib.hid hrows
      clear hlen hrows
      go_wp2
      go_loopw [6, 20] (fun v i wr => ∃ (q : Nat), q ≤ L.length ∧ i = .int .i64 q ∧ Hid (Bld wr wb.heap.size v (nxL L m (q * m))) ∧ Below wb.heap.size wb wr) (fun _ i _ => L.length - (intOf i).toNat)
      case atStart => exact ⟨0, by omega, rfl, Lib.hid (by rw [Nat.zero_mul]; exact Bld.nil _ _), Below.refl _ _⟩
      case round =>
        obtain ⟨q, hq, rfl, hbld, hbx⟩ := hrel
        have hbxz := hbx.size
        by_cases hltq : q < L.length
        · obtain ⟨b2, eO, hb2, hc2⟩ := Hrows.out (by omega)
          subst eO
          obtain ⟨S, cS, f1, f2, f3⟩ := hc2 q hltq
          have d2 := (hbx.cell (p := ⟨b2, q, none⟩) hb2).trans f1
          have g2 : b2 < wr.heap.size := by omega
          have hrq := Hrl.out q hltq
          obtain ⟨s, hs⟩ : ∃ s, s = row L q := ⟨_, rfl⟩
          have hsl : s.length ≤ 64 := by rw [hs, hrq]; omega
          rw [← hs] at d2 f3
          have Hs := Lib.hid hs
          have q0 : (0 : Int) ≤ (q : Int) := by omega
          have q1 : (q : Int) < (L.length : Int) := by omega
          clear hc2 f1 hrq hs
          have Hs3 := Lib.hid f3
          clear f3
          obtain ⟨wc, rfl⟩ : ∃ wc : World, wc = wr := ⟨_, rfl⟩
          have hqm : (q + 1) * m ≤ L.length * m := Nat.mul_le_mul_right _ (by omega)
          have hqm2 : (q + 1) * m = q * m + m := Nat.succ_mul _ _
          have hlen := Hlen.out
          generalize L.length * m = LM at hqm hlen
          go_wp2
          go_loopw [6, 25] (fun v i wr => ∃ (x : Nat), x ≤ m ∧ i = .int .i64 x ∧ Hid (Bld wr wb.heap.size v (nxL L m (q * m + x))) ∧ Below wb.heap.size wb wr) (fun _ i _ => m - (intOf i).toNat)
          case atStart => exact ⟨0, by omega, rfl, hbld, hbx⟩
          case round =>
            obtain ⟨x, hx, rfl, hbld2, hbyb⟩ := hrel
            have hbyz := hbyb.size
            by_cases hltx : x < m
            · obtain ⟨xs, hown, hrs⟩ := hbld2.out
              rw [nxL_len] at hown
              have x0 : (0 : Int) ≤ (x : Int) := by omega
              have x1 : (x : Int) < (m : Int) := by omega
              have hqx : q * m + x ≤ 65536 := by omega
              have Hown := Lib.hid hown
              have Hrs := Lib.hid hrs
              have Hs4 := Lib.hid (Hs3.out.up hbyb)
              obtain ⟨N, hN⟩ : ∃ N, N = q * m + x := ⟨_, rfl⟩
              have HN := Lib.hid hN
              rw [← hN] at hown Hown hqx
              clear hN hown hrs hbld2
              go_wp2_with (first
                | (at_builtin; refine wpList_append_src rfl _ _ 38 rfl wr.heap.size 3 inf (.int .i64 0) 1 8 undI6 hi iz0 iz1 iz2 rfl (by decide) _ 0 [] rfl (World.ownsRow_made wr #[] 0 (Nat.le_refl _) (by simp [maxLen]) rfl) S s.length cS (s.map (.int .i64)) rfl (ints_srcAt (Hs4.out.up (by repeat (first | exact Below.refl _ _ | refine below_dN ?_ _ | refine Below.drew ?_ | refine Below.alloc ?_ (by first | omega | (simp; done) | (simp; omega)) _ | refine Below.setCell ?_ (by first | omega | (simp; done) | (simp; omega)) _ | refine below_step (by assumption) (by first | omega | (simp; done) | (simp; omega)) ?_))) f2) (by unfold maxLen; omega) (by omega) (by simp) ?_; intro v3 w3 hown3 hgrow3 hat3; simp only [Nat.zero_add, List.nil_append] at hown3; have hb3 : Below wr.heap.size wr w3 := grown_below2 (s := 1) (Below.alloc (Below.refl _ _) (Nat.le_refl _) _) (Nat.le_refl _) (World.ownsRow_made wr #[] 0 (Nat.le_refl _) (by simp [maxLen]) rfl) hgrow3; have z3 := hb3.size; have Hown3 := Lib.hid hown3; clear hown3 hgrow3 hat3)
                | (at_builtin; refine wpList_push rfl _ _ 38 rfl wr.heap.size 3 inf (.int .i64 0) 1 8 undI6 hi iz0 iz1 iz2 rfl (by decide) (by decide) v3 s.length (s.map (.int .i64)) rfl (Hown3.out.alloc _) w3.heap.size 3 [.int .i64 (x : Int)] rfl rfl (heap_alloc_new _ _) (one_one rfl) (by omega) (by simp; omega) (B := wr.heap.size) (W := wr) (hb3.alloc z3 _) (Nat.le_refl _) ?_; intro v4 w4 hown4 hgrow4 hat4 hb4; obtain ⟨A4, c4, rfl, hA4⟩ := rowGe_own hown4 (fun i => .int .i64 (nth (s ++ [(x : Int)]) i)) (fun i hi => by have := ic_get (l := s ++ [(x : Int)]) (k := i) (by simp; omega); rwa [← ic_push] at this); have z4 := hb4.size; have HA4 := Lib.hid hA4; clear hown4 hgrow4 hat4 hA4)
                | (at_builtin; refine wpList_push rfl _ _ 52 rfl wb.heap.size 38 ing (.slice none 0 0) 1 24 undIs hj jz0 jz1 jz2 rfl (by decide) (by decide) u6 N xs rfl (own_below Hown.out (hb4.alloc z4 _)) w4.heap.size 38 [.slice A4 (s.length + 1) c4] rfl rfl (heap_alloc_new _ _) (one_one rfl) (by omega) (by simp; omega) (B := wb.heap.size) (W := wb) (hbyb.trans ((hb4.alloc z4 _).mono hbyb.size)) (Nat.le_refl _) ?_; intro v5 w5 hown5 hgrow5 hat5 hb5; have Hown5 := Lib.hid hown5; have Hgrow5 := Lib.hid hgrow5; clear hown5 hgrow5 hat5))
              go_roundw
              case rel =>
                refine ⟨x + 1, by omega, by go_num, Lib.hid ?_, hb5⟩
                · have h1 : nxL L m (q * m + (x + 1)) = nxL L m N ++ [s ++ [(x : Int)]] := by
                    rw [HN.out, ← Nat.add_assoc, nxL_at L hltx rfl, Hs.out]
                  rw [h1]
                  have hb4' := hb4.alloc z4 (.cells #[.slice A4 (s.length + 1) c4] 38)
                  refine bld_push (xs := xs) (S := A4) (c := c4) (l := s ++ [(x : Int)]) (by rw [nxL_len]; exact own_below Hown.out hb4') ?_ ?_ ?_ Hgrow5.out (by rw [nxL_len, List.length_append]; exact Hown5.out)
                  · have := Hrs.out
                    rw [← HN.out] at this
                    exact this.up hb4'
                  · intro e
                    obtain ⟨g, e2, _⟩ := HA4.out (by omega)
                    rw [e] at e2; cases e2
                  · refine ⟨by simp; omega, fun _ => ?_⟩
                    obtain ⟨g, e2, _, hg⟩ := HA4.out (by omega)
                    exact ⟨g, e2, by rw [List.length_append]; exact hg.alloc _⟩
              case measure => simp [intOf]; omega
            · obtain rfl : x = m := by omega
              have hb := hbld2.out
              rw [← hqm2] at hb
              have Hb := Lib.hid hb
              clear hb hbld2
              go_wp2
              go_roundw
              case rel => exact ⟨q + 1, by omega, by go_num, Hb, hbyb⟩
              case measure => simp [intOf]; omega
        · obtain rfl : q = L.length := by omega
          have Hd := Lib.hid (show GotRows wr u6 (stN vars (k + 1)) by rw [HS.out]; exact hbld.out.done)
          go_wp2
          go_roundw
          case rel => exact ⟨k + 1, by omega, by go_num, Hd.out, hbel.trans (hbx.mono hbz)⟩
          case measure => simp [intOf]; omega
    · obtain rfl : k = vars.length := by omega
      have Hr := Lib.hid hrows
      go_wp2
      go_ret
      exact ⟨⟨_, rfl, ⟨O, d, rfl, Hr.out⟩⟩, hbel⟩
end

section
open Go Go.RowKit
set_option linter.unusedVariables false

/-- Edges as cells; a slice of edges. -/
def ec (l : List (Nat × Nat × Nat)) : List Value := l.flatMap fun a => [.int .i64 (a.1 : Int), .int .i64 (a.2.1 : Int), .int .i64 (a.2.2 : Int)]
theorem ec_app (a b : List (Nat × Nat × Nat)) : ec (a ++ b) = ec a ++ ec b := by unfold ec; rw [List.flatMap_append]
theorem ec_len (l : List (Nat × Nat × Nat)) : (ec l).length = l.length * 3 := by
  induction l with
  | nil => rfl
  | cons f l ih => show (_ :: _ :: _ :: ec l).length = _; simp only [List.length_cons, ih]; omega
theorem ec_get : ∀ (l : List (Nat × Nat × Nat)) (k : Nat), k < l.length → (ec l)[k * 3]? = some (.int .i64 ((egd l k).1 : Int)) ∧ (ec l)[k * 3 + 1]? = some (.int .i64 ((egd l k).2.1 : Int)) ∧ (ec l)[k * 3 + 2]? = some (.int .i64 ((egd l k).2.2 : Int))
  | f :: l, 0, _ => ⟨rfl, rfl, rfl⟩
  | f :: l, k + 1, h => by
    obtain ⟨h1, h2, h3⟩ := ec_get l k (by simp at h; omega)
    have e : ec (f :: l) = .int .i64 (f.1 : Int) :: .int .i64 (f.2.1 : Int) :: .int .i64 (f.2.2 : Int) :: ec l := rfl
    rw [e, show (k + 1) * 3 = k * 3 + 1 + 1 + 1 by omega]
    exact ⟨h1, h2, h3⟩
theorem infoEd : (Try.prog.info? 99).map (fun i => (i.zero, i.size, i.bytes)) = some (some (.agg #[.int .i64 0, .int .i64 0, .int .i64 0]), 3, 24) := by kernel_rfl
theorem undEd : Try.prog.underlying 96 = some (.slice 99) := by kernel_rfl
def EdgAt (w : World) (B : Nat) (A : Option Addr) (l : List (Nat × Nat × Nat)) : Prop :=
  0 < l.length → ∃ b, A = some ⟨b, 0, none⟩ ∧ b < B ∧ ∀ k, k < l.length → w.cell? ⟨b, k * 3, none⟩ = some (.int .i64 ((egd l k).1 : Int)) ∧ w.cell? ⟨b, k * 3 + 1, none⟩ = some (.int .i64 ((egd l k).2.1 : Int)) ∧ w.cell? ⟨b, k * 3 + 2, none⟩ = some (.int .i64 ((egd l k).2.2 : Int))
def GotEdg (w : World) (v : Value) (l : List (Nat × Nat × Nat)) : Prop := ∃ A c, v = .slice A l.length c ∧ EdgAt w w.heap.size A l
theorem EdgAt.up {w w' : World} {A : Option Addr} {l : List (Nat × Nat × Nat)} (h : EdgAt w w.heap.size A l) (hb : Below w.heap.size w w') : EdgAt w' w'.heap.size A l := fun h0 => by
  obtain ⟨b, e, hlt, hc⟩ := h h0
  exact ⟨b, e, Nat.lt_of_lt_of_le hlt hb.size, fun k hk => ⟨(hb.cell (p := ⟨b, _, none⟩) hlt).trans (hc k hk).1, (hb.cell (p := ⟨b, _, none⟩) hlt).trans (hc k hk).2.1, (hb.cell (p := ⟨b, _, none⟩) hlt).trans (hc k hk).2.2⟩⟩
/-- The block, if any, is no elder one. -/
def FreshV (B : Nat) (v : Value) : Prop := ∀ g, v.ownBlock = some g → B ≤ g
theorem gotEdg_own {w : World} {B : Nat} {v : Value} {l : List (Nat × Nat × Nat)} (h : w.ownsRow B 99 3 v l.length (ec l)) : GotEdg w v l := by
  rcases h.2 with ⟨rfl, h0⟩ | ⟨b, cap, cur, rfl, hb, hg, hnc, hcm, hcs, htk⟩
  · exact ⟨none, 0, by rw [h0], fun hn => absurd hn (by omega)⟩
  · have hcell : ∀ i u, (ec l)[i]? = some u → w.cell? ⟨b, i, none⟩ = some u := fun i u hi => by
      rw [cell_of_row w b i cur 99 (0, 0) hg]
      rw [← htk, List.getElem?_take] at hi
      split at hi
      · simpa using hi
      · cases hi
    exact ⟨_, cap, rfl, fun _ => ⟨b, rfl, (Array.getElem?_eq_some_iff.1 hg).1, fun k hk => ⟨hcell _ _ (ec_get l k hk).1, hcell _ _ (ec_get l k hk).2.1, hcell _ _ (ec_get l k hk).2.2⟩⟩⟩
def egK (t : Tsk) (i j : Nat) : List (Nat × Nat × Nat) := egN t i ++ egO t (row (sts t.vars) i) i j
theorem egK_len {t : Tsk} {i j : Nat} (hi : i ≤ 512) (hj : j ≤ t.ops.length) (ho : t.ops.length ≤ 20) : (egK t i j).length ≤ 20000 := by
  unfold egK
  rw [List.length_append]
  have h1 := egN_len (t := t) i
  have h2 := egO_len (t := t) (row (sts t.vars) i) i j
  have h3 : i * t.ops.length ≤ 512 * 20 := Nat.mul_le_mul hi ho
  omega
theorem st_nxt' {t : Tsk} (hr : Right t) {s : List Int} (hs : stB t.vars s = true) {k : Nat} (hk : k < t.ops.length) : stB t.vars (nxt t s k) = true := by
  unfold stB at *
  simp only [decide_eq_true_eq] at *
  have key : ∀ j, j ≤ (opr t.ops k).effs.length → StP t.vars (apE s (opr t.ops k).effs j) := fun j => by
    induction j with
    | zero => intro _; exact hs
    | succ j ih =>
      intro hj
      have h1 := ih (by omega)
      have he := hr.eff k hk j (by omega)
      unfold apE
      split
      · refine ⟨by rw [List.length_set]; exact h1.1, fun v hv => ?_⟩
        rw [List.length_set] at hv
        rw [nth_set (by rw [h1.1]; omega)]
        split
        · rename_i e; subst e; exact ⟨he.2.2.1, he.2.2.2⟩
        · exact h1.2 v hv
      · exact h1
  exact key _ (Nat.le_refl _)

set_option maxRecDepth 100000 in
set_option maxHeartbeats 16000000 in
theorem bedges_any (t : Tsk) (p : Lies) (w : World) (ht : TaskAt w w.heap.size t p) (hs : Smll t) :
    Calls Try.prog 45 #[TaskV t p] w fun e w' => (∃ v, e = .returned v ∧ GotEdg w' v (edges t) ∧ FreshV w.heap.size v) ∧ Below w.heap.size w w' := by
  have k1 := fun w1 (hb : Below w.heap.size w w1) => bstates_any t.vars p.av p.cv w1 (ht.vars.up hb) hs.right.dom (by have := hs.many; omega) hs.right.nv
  have k2 := fun w1 (s : List Int) (A : Option Addr) (c k : Nat) (hb : Below w.heap.size w w1) (h : IntsAt w1 w1.heap.size A s) (hc : A = none → c = 0) (hst : stB t.vars s = true) (hk : k < t.ops.length) =>
    bapply_any t p s A c k w1 (ht.up hb) h hc (chk0 hs.chk).1 (chk0 hs.chk).2.2.1 hst hk
  have k3 := fun w1 (s : List Int) (A : Option Addr) (c : Nat) (hb : Below w.heap.size w w1) (h : IntsAt w1 w1.heap.size A s) (hst : stB t.vars s = true) =>
    brank_any t.vars s p.av A p.cv c w1 (ht.vars.up hb) h (by unfold stB at hst; simpa using hst) hs.right.dom (by have := hs.many; omega)
  have hN := sts_len hs.right
  have hN2 := hs.many
  have ho := hs.no
  have HS := Lib.hid hs
  have K1 := Lib.hid k1
  have K2 := Lib.hid k2
  have K3 := Lib.hid k3
  clear hs k1 k2 k3
  obtain ⟨av, ai, ag, ao, cv, ci, cg, co⟩ := p
  unfold TaskV at *
  dsimp only at *
  obtain ⟨inf, hi, iz0, iz1, iz2⟩ := info_parts infoEd
  have hN3 : (sts t.vars).length ≤ 512 := by omega
  clear hN hN2
  go_enter Try.func45, Try.ntmps45
  go_wp2_with fail
  refine (K1.out _ (by repeat (first | exact Below.refl _ _ | refine below_dN ?_ _ | refine Below.drew ?_ | refine Below.alloc ?_ (by first | omega | (simp; done) | (simp; omega)) _ | refine Below.setCell ?_ (by first | omega | (simp; done) | (simp; omega)) _ | refine below_step (by assumption) (by first | omega | (simp; done) | (simp; omega)) ?_))).mono ?_
  rintro e w2 ⟨⟨v2, rfl, A, c, rfl, hrows⟩, hb2⟩
  have hbx2 : Boxed w2 w.heap.size t ⟨av, ai, ag, ao, cv, ci, cg, co⟩ := Boxed.up (by constructor <;> simp) hb2
  have hbw2 : Below w.heap.size w w2 := ((Below.refl _ _).alloc (Nat.le_refl _) _).trans (hb2.mono (by simp))
  have Hrows := Lib.hid hrows
  have z2 := hbw2.size
  clear hrows hb2
  obtain ⟨z0, y0, y1, y2, y3⟩ := id hbx2
  dsimp only at y0 y1 y2 y3
  go_wp2
  go_loopw [3, 13] (fun v i wr => ∃ (k : Nat), k ≤ (sts t.vars).length ∧ i = .int .i64 k ∧ Hid (wr.ownsRow w2.heap.size 99 3 v (egN t k).length (ec (egN t k))) ∧ Below w2.heap.size w2 wr) (fun _ i _ => (sts t.vars).length - (intOf i).toNat)
  case atStart => exact ⟨0, by omega, rfl, Lib.hid (World.ownsRow_nil _ _ _ _), Below.refl _ _⟩
  case round =>
    clear z0 y0 y1 y2 y3
    obtain ⟨k, hk, rfl, hown, hbel⟩ := hrel
    obtain ⟨wt, rfl⟩ : ∃ wt : World, wt = wr := ⟨_, rfl⟩
    obtain ⟨z0, y0, y1, y2, y3⟩ := id (hbx2.up hbel)
    dsimp only at y0 y1 y2 y3
    have hbz := hbel.size
    by_cases hlt : k < (sts t.vars).length
    · obtain ⟨b1, eA, hb1, hc1⟩ := Hrows.out (by omega)
      subst eA
      obtain ⟨S, cS, f1, f2, f3⟩ := hc1 k hlt
      have d1 := (hbel.cell (p := ⟨b1, k, none⟩) hb1).trans f1
      have g1 : b1 < wt.heap.size := by omega
      have k0 : (0 : Int) ≤ (k : Int) := by omega
      have k1 : (k : Int) < ((sts t.vars).length : Int) := by omega
      have hst := sts_st HS.out.right hlt
      obtain ⟨s, hs⟩ : ∃ s, s = row (sts t.vars) k := ⟨_, rfl⟩
      rw [← hs] at d1 f3 hst
      have Hst := Lib.hid hst
      have Hs := Lib.hid hs
      have Hf3 := Lib.hid f3
      clear hc1 f1 f3 hst hs
      go_wp2
      go_loopw [3, 21] (fun v i wr => ∃ (j : Nat), j ≤ t.ops.length ∧ i = .int .i64 j ∧ Hid (wr.ownsRow w2.heap.size 99 3 v (egK t k j).length (ec (egK t k j))) ∧ Below w2.heap.size w2 wr) (fun _ i _ => t.ops.length - (intOf i).toNat)
      case atStart => exact ⟨0, by omega, rfl, Lib.hid (by unfold egK; rw [egO_zero, List.append_nil]; exact hown.out), hbel⟩
      case round =>
        clear z0 y0 y1 y2 y3
        obtain ⟨j, hj, rfl, hown2, hbx⟩ := hrel
        obtain ⟨z0, y0, y1, y2, y3⟩ := id (hbx2.up hbx)
        dsimp only at y0 y1 y2 y3
        have hbxz := hbx.size
        obtain ⟨wu, rfl⟩ : ∃ wu : World, wu = wr := ⟨_, rfl⟩
        by_cases hltj : j < t.ops.length
        · have hbwu : Below w.heap.size w wu := hbw2.trans (hbx.mono z2)
          have k4 := fun wx (hb : Below wu.heap.size wu wx) => K2.out wx s S cS j (hbwu.trans (hb.mono hbwu.size)) (Hf3.out.up (hbx.trans (hb.mono hbxz))) f2 Hst.out hltj
          have j0 : (0 : Int) ≤ (j : Int) := by omega
          have j1 : (j : Int) < (t.ops.length : Int) := by omega
          cases e1 : hoB (opr t.ops j).pre s
          · rw [e1] at k4
            have HP := Lib.hid (show egK t k (j + 1) = egK t k j by unfold egK; rw [← Hs.out, egO_no e1])
            go_wp2_with fail
            refine (k4 _ (by repeat (first | exact Below.refl _ _ | refine below_dN ?_ _ | refine Below.drew ?_ | refine Below.alloc ?_ (by first | omega | (simp; done) | (simp; omega)) _ | refine Below.setCell ?_ (by first | omega | (simp; done) | (simp; omega)) _ | refine below_step (by assumption) (by first | omega | (simp; done) | (simp; omega)) ?_))).mono ?_
            rintro e w4 ⟨⟨v4, rfl, hg4⟩, hb4⟩
            have hb24 : Below w2.heap.size w2 w4 := hbx.trans (hb4.mono hbxz)
            have Ho := Lib.hid (own_below hown2.out hb4)
            clear z0 y0 y1 y2 y3 hg4
            go_wp2
            go_roundw
            case rel => exact ⟨j + 1, by omega, by go_num, Lib.hid (by rw [HP.out]; exact Ho.out), hb24⟩
            case measure => simp [intOf]; omega
          · rw [e1] at k4
            have HP := Lib.hid (show egK t k (j + 1) = egK t k j ++ [(k, j, num t (nxt t s j))] by unfold egK; rw [← Hs.out, egO_yes e1, List.append_assoc])
            have hst2 := st_nxt' HS.out.right Hst.out hltj
            have hnum := num_eq HS.out.right hst2
            have Hst2 := Lib.hid hst2
            obtain ⟨sn, hsn⟩ : ∃ sn, sn = nxt t s j := ⟨_, rfl⟩
            rw [if_pos rfl, ← hsn] at k4
            rw [← hsn] at hst2 hnum HP
            have hsl : sn.length = t.vars.length := stB_len hst2
            have k5 := fun wx A c (hb : Below wu.heap.size wu wx) (h : IntsAt wx wx.heap.size A sn) => K3.out wx sn A c (hbwu.trans (hb.mono hbwu.size)) h hst2
            rw [hsl, hnum.1] at k5
            have hlen := egK_len (t := t) (show k ≤ 512 by omega) hj ho
            have K5 := Lib.hid k5
            have Hsl := Lib.hid hsl
            clear hst2 hnum hsn Hst2 k5 hsl
            go_wp2_with fail
            refine (k4 _ (by repeat (first | exact Below.refl _ _ | refine below_dN ?_ _ | refine Below.drew ?_ | refine Below.alloc ?_ (by first | omega | (simp; done) | (simp; omega)) _ | refine Below.setCell ?_ (by first | omega | (simp; done) | (simp; omega)) _ | refine below_step (by assumption) (by first | omega | (simp; done) | (simp; omega)) ?_))).mono ?_
            rintro e w4 ⟨⟨v4, rfl, A4, c4, rfl, hA4, hg4⟩, hb4⟩
            have hb24 : Below w2.heap.size w2 w4 := hbx.trans (hb4.mono hbxz)
            clear z0 y0 y1 y2 y3 k4
            obtain ⟨z0, y0, y1, y2, y3⟩ := id (hbx2.up hb24)
            dsimp only at y0 y1 y2 y3
            have Ho := Lib.hid (own_below hown2.out hb4)
            have z4 := hb4.size
            rw [Hsl.out]
            go_wp2_with fail
            refine (K5.out _ A4 c4 hb4 hg4).mono ?_
            rintro e w5 ⟨rfl, hb5⟩
            have hb25 : Below w2.heap.size w2 w5 := hb24.trans (hb5.mono hb24.size)
            have Ho5 := Lib.hid (own_below Ho.out hb5)
            have z5 := hb5.size
            have z25 := hb25.size
            go_wp2_with (at_builtin; refine wpList_push rfl _ _ 96 rfl w2.heap.size 99 inf (.agg #[.int .i64 0, .int .i64 0, .int .i64 0]) 3 24 undEd hi iz0 iz1 iz2 rfl (by decide) (by decide) u3 (egK t k j).length (ec (egK t k j)) rfl (Ho5.out.alloc _) w5.heap.size 99 [.int .i64 (k : Int), .int .i64 (j : Int), .int .i64 (num t sn : Int)] rfl rfl (heap_alloc_new _ _) (three_one rfl rfl rfl) (by omega) (by first | omega | (simp; omega)) (B := w2.heap.size) (W := w2) (hb25.alloc z25 _) (Nat.le_refl _) ?_; intro v' w8 hown' hgrow hat hbw8; have Hown := Lib.hid hown'; clear hown' hgrow hat)
            go_roundw
            case rel => exact ⟨j + 1, by omega, by go_num, Lib.hid (by rw [HP.out, List.length_append, ec_app]; exact Hown.out), hbw8⟩
            case measure => simp [intOf]; omega
        · obtain rfl : j = t.ops.length := by omega
          have HP := Lib.hid (show egK t k t.ops.length = egN t (k + 1) from (egN_succ k).symm)
          go_wp2
          go_roundw
          case rel => exact ⟨k + 1, by omega, by go_num, Lib.hid (by rw [← HP.out]; exact hown2.out), hbx⟩
          case measure => simp [intOf]; omega
    · obtain rfl : k = (sts t.vars).length := by omega
      have hfr : FreshV w.heap.size u3 := fun g hg => Nat.le_trans hbw2.size (hown.out.lt g hg).1
      have Hfr := Lib.hid hfr
      clear hfr
      obtain ⟨A3, d, rfl, hfa⟩ := gotEdg_own hown.out
      have Hg := Lib.hid (show GotEdg wt (.slice A3 (egN t (sts t.vars).length).length d) (edges t) from ⟨A3, d, rfl, hfa⟩)
      clear hfa hown
      go_wp2
      go_ret
      exact ⟨⟨_, rfl, Hg.out, Hfr.out⟩, hbw2.trans (hbel.mono hbw2.size)⟩
end

section
open Go.RowKit
set_option linter.unusedVariables false

def INF : Int := 1125899906842624
/-- A plan from a state to the goal, and its cost. -/
inductive PlanC (t : Tsk) : List Int → Int → Prop
  | goal {s : List Int} : hoB t.goal s = true → PlanC t s 0
  | step {s : List Int} {k : Nat} {c : Int} : k < t.ops.length → hoB (opr t.ops k).pre s = true → PlanC t (nxt t s k) c → PlanC t s ((opr t.ops k).cost + c)
/-- The least cost, at most INF. -/
structure IsBest (t : Tsk) (s : List Int) (d : Int) : Prop where
  lo : 0 ≤ d
  hi : d ≤ INF
  real : d = INF ∨ PlanC t s d
  least : ∀ c, PlanC t s c → d ≤ c
theorem k_best_le {t t' : Tsk} {s s' : List Int} {d d' : Int} (h : IsBest t s d) (h' : IsBest t' s' d') (hp : ∀ c, PlanC t s c → ∃ c', c' ≤ c ∧ PlanC t' s' c') : d' ≤ d := by
  rcases h.real with e | e
  · rw [e]; exact h'.hi
  · obtain ⟨c', h1, h2⟩ := hp _ e
    have := h'.least _ h2
    omega
/-- A sum of a function's first values. -/
def k_sumF (D : Nat → Int) : Nat → Nat
  | 0 => 0
  | n + 1 => k_sumF D n + (D n).toNat
def setD (D : Nat → Int) (j : Nat) (x : Int) (v : Nat) : Int := if v = j then x else D v
theorem k_sumF_same {D D' : Nat → Int} : ∀ {n : Nat}, (∀ v, v < n → D v = D' v) → k_sumF D n = k_sumF D' n
  | 0, _ => rfl
  | n + 1, h => by show k_sumF D n + _ = k_sumF D' n + _; rw [k_sumF_same (n := n) fun v hv => h v (by omega), h n (by omega)]
theorem sumF_set {D : Nat → Int} {j : Nat} {x : Int} : ∀ {n : Nat}, j < n → k_sumF (setD D j x) n + (D j).toNat = k_sumF D n + x.toNat
  | 0, h => absurd h (by omega)
  | n + 1, h => by
    show k_sumF (setD D j x) n + (setD D j x n).toNat + (D j).toNat = k_sumF D n + (D n).toNat + x.toNat
    by_cases e : j = n
    · subst e
      have h1 : k_sumF (setD D j x) j = k_sumF D j := k_sumF_same fun v hv => by unfold setD; rw [if_neg (by omega)]
      have h2 : setD D j x j = x := by unfold setD; rw [if_pos rfl]
      rw [h1, h2]; omega
    · have h1 := sumF_set (D := D) (x := x) (show j < n by omega)
      have h2 : setD D j x n = D n := by unfold setD; rw [if_neg (by omega)]
      rw [h2]; omega
def flN (c : Bool) : Nat := if c then 1 else 0
/-- What holds of the table. -/
structure Dst (t : Tsk) (D : Nat → Int) : Prop where
  rng : ∀ i, i < (sts t.vars).length → 0 ≤ D i ∧ D i ≤ INF
  real : ∀ i, i < (sts t.vars).length → D i = INF ∨ PlanC t (row (sts t.vars) i) (D i)
  goal : ∀ i, i < (sts t.vars).length → hoB t.goal (row (sts t.vars) i) = true → D i = 0
def EdC (t : Tsk) (D : Nat → Int) (e : Nat × Nat × Nat) : Prop := D e.2.2 < INF → D e.1 ≤ D e.2.2 + (opr t.ops e.2.1).cost
/-- The first k places as they are to be. -/
def dsN (t : Tsk) (k : Nat) (v : Nat) : Int := if v < k then (if hoB t.goal (row (sts t.vars) v) then 0 else INF) else 0
section
variable {t : Tsk} {D : Nat → Int}
theorem dst_start : Dst t (dsN t (sts t.vars).length) where
  rng := fun i hi => by unfold dsN; rw [if_pos hi]; split <;> unfold INF <;> omega
  real := fun i hi => by
    unfold dsN; rw [if_pos hi]
    split
    · exact .inr (PlanC.goal (by assumption))
    · exact .inl rfl
  goal := fun i hi h => by unfold dsN; rw [if_pos hi, if_pos h]
theorem egd_facts (hr : Right t) {e : Nat × Nat × Nat} (he : e ∈ edges t) : e.1 < (sts t.vars).length ∧ e.2.1 < t.ops.length ∧ e.2.2 < (sts t.vars).length ∧ hoB (opr t.ops e.2.1).pre (row (sts t.vars) e.1) = true ∧ row (sts t.vars) e.2.2 = nxt t (row (sts t.vars) e.1) e.2.1 := by
  obtain ⟨h1, h2, h3, h4⟩ := mem_edges.1 he
  have hst := st_nxt' hr (sts_st hr h1) h2
  refine ⟨h1, h2, ?_, h3, ?_⟩
  · rw [h4]; exact (num_eq hr hst).2
  · rw [h4]; exact sts_num hr hst
theorem dst_mark (hr : Right t) (h : Dst t D) {e : Nat × Nat × Nat} (he : e ∈ edges t) (h1 : D e.2.2 < INF) (h2 : D e.2.2 + (opr t.ops e.2.1).cost < D e.1) : Dst t (setD D e.1 (D e.2.2 + (opr t.ops e.2.1).cost)) := by
  obtain ⟨a1, a2, a3, a4, a5⟩ := egd_facts hr he
  have hc := hr.cost _ a2
  have r1 := h.rng _ a3
  have r2 := h.rng _ a1
  refine ⟨fun i hi => ?_, fun i hi => ?_, fun i hi hg => ?_⟩
  · unfold setD
    split
    · exact ⟨by omega, by omega⟩
    · exact h.rng i hi
  · unfold setD
    split
    · rename_i e; subst e
      rcases h.real _ a3 with e | e
      · omega
      · rw [a5] at e
        have := PlanC.step a2 a4 e
        rw [Int.add_comm] at this
        exact .inr this
    · exact h.real i hi
  · unfold setD
    split
    · rename_i e; subst e
      have := h.goal _ hi hg
      omega
    · exact h.goal i hi hg
theorem dst_best (hr : Right t) (h : Dst t D) (hc : ∀ e ∈ edges t, EdC t D e) {s : List Int} (hs : stB t.vars s = true) : IsBest t s (D (num t s)) := by
  have key : ∀ s c, PlanC t s c → stB t.vars s = true → D (num t s) ≤ c := by
    intro s c hp
    induction hp with
    | @goal s hg =>
      intro hs
      have := h.goal _ (num_eq hr hs).2 (by rw [sts_num hr hs]; exact hg)
      omega
    | @step s k c hk hpre _ ih =>
      intro hs
      have hs2 := st_nxt' hr hs hk
      have h1 := ih hs2
      have hm : (num t s, k, num t (nxt t s k)) ∈ edges t := mem_edges.2 ⟨(num_eq hr hs).2, hk, by dsimp only; rw [sts_num hr hs]; exact hpre, by dsimp only; rw [sts_num hr hs]⟩
      have h2 := hc _ hm
      unfold EdC at h2
      dsimp only at h2
      have r1 := h.rng _ (num_eq hr hs).2
      have r2 := h.rng _ (num_eq hr hs2).2
      have hcst := hr.cost _ hk
      by_cases e : D (num t (nxt t s k)) < INF
      · have := h2 e; omega
      · omega
  have hn := num_eq hr hs
  refine ⟨(h.rng _ hn.2).1, (h.rng _ hn.2).2, ?_, fun c hp => key s c hp hs⟩
  have := h.real _ hn.2
  rwa [sts_num hr hs] at this
end
end

end Go.Proofs.Ytaampjhdgeoicaa
