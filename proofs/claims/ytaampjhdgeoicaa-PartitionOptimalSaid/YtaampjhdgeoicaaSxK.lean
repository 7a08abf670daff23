/- The law SimplexOptimal. -/
import Derived.Test.YtaampjhdgeoicaaSxJ
namespace Go.Proofs.Ytaampjhdgeoicaa
set_option linter.unusedSimpArgs false
set_option linter.unusedVariables false
open Go Go.RowKit
set_option linter.unusedVariables false

/-- The box of a program. -/
structure PrgAt (w : World) (P : Nat) (v0 v1 v2 : Value) : Prop where
  lt : P < w.heap.size
  c0 : w.cell? ⟨P, 0, none⟩ = some v0
  c1 : w.cell? ⟨P, 1, none⟩ = some v1
  c2 : w.cell? ⟨P, 2, none⟩ = some v2
theorem PrgAt.up {w w' : World} {P : Nat} {v0 v1 v2 : Value} (h : PrgAt w P v0 v1 v2) (hb : Below w.heap.size w w') : PrgAt w' P v0 v1 v2 :=
  ⟨Nat.lt_of_lt_of_le h.lt hb.size, (hb.cell (p := ⟨P, 0, none⟩) h.lt).trans h.c0, (hb.cell (p := ⟨P, 1, none⟩) h.lt).trans h.c1, (hb.cell (p := ⟨P, 2, none⟩) h.lt).trans h.c2⟩
theorem PrgAt.new (w : World) (v0 v1 v2 : Value) (T : TypeId) : PrgAt (w.alloc (.cells #[v0, v1, v2] T)) w.heap.size v0 v1 v2 := by constructor <;> first | (simp; done) | (simp; omega)
theorem fr_src {w : World} {b N : Nat} {f : Nat → Rat} (h : FrRow w b N f) (hN : N ≤ 1000) : SrcAt w (some ⟨b, 0, none⟩) N N 2 (fc (frq f N)) where
  none := fun e => nomatch e
  len := by rw [fc_len, frq_len]
  cells := fun ad e => by cases e; exact fracs_cells (fr_facts h hN)
  one := fc_one
theorem frq_ok {f : Nat → Rat} {N : Nat} (h : ∀ j, j < N → Rep (f j) ∧ 0 ≤ f j) : ∀ k, k < (frq f N).length → prB (fv (frq f N) k) (fx (frq f N) k) = true ∧ 0 ≤ fv (frq f N) k := fun k hk => by
  rw [frq_len] at hk
  obtain ⟨h1, h2⟩ := frq_at (f := f) hk
  rw [h1, h2]
  exact ⟨rep_pr (h k hk).1, Rat.num_nonneg.2 (h k hk).2⟩
theorem app_ok {a b : List (Int × Int)} {Q : Int → Int → Prop} (ha : ∀ k, k < a.length → Q (fv a k) (fx a k)) (hb : ∀ k, k < b.length → Q (fv b k) (fx b k)) : ∀ k, k < (a ++ b).length → Q (fv (a ++ b) k) (fx (a ++ b) k) := fun k hk => by
  unfold fv fx at *
  by_cases h : k < a.length
  · have := ha k h
    simp only [List.getD, List.getElem?_append_left h]
    exact this
  · rw [List.length_append] at hk
    have := hb (k - a.length) (by omega)
    simp only [List.getD, List.getElem?_append_right (show a.length ≤ k by omega)]
    exact this

theorem own_made1 (w : World) (o : Obj) : ((w.alloc o).alloc (.cells #[] 29)).ownsRow (w.heap.size + 1) 29 2 (.slice (some ⟨w.heap.size + 1, 0, none⟩) 0 0) 0 [] := by
  have := own_built (B := w.heap.size + 1) (e := 29) (s := 2) (w.alloc o) #[] 0 (by simp) (by simp [maxLen]) rfl
  rw [World.size_alloc] at this
  exact this
theorem Own2.grown {w w' : World} {b B s k : Nat} {n d : Int} {e : TypeId} {v : Value} {xs : List Value} (h : Own2 w b n d) (ho : w.ownsRow B e s v k xs) (hg : w.grownBy w' v.ownBlock) (hb : b < B) : Own2 w' b n d := by
  have he : w'.heap[b]? = w.heap[b]? := hg.block b h.lt fun e => by have := (ho.lt b e.symm).1; omega
  exact ⟨Nat.lt_of_lt_of_le h.lt hg.size, (World.cell?_of_block (a := ⟨b, 0, none⟩) he).trans h.c0, (World.cell?_of_block (a := ⟨b, 1, none⟩) he).trans h.c1, (World.frozen?_of_block (a := ⟨b, 0, none⟩) he).trans h.f0, (World.frozen?_of_block (a := ⟨b, 1, none⟩) he).trans h.f1⟩

theorem sol_row {c : List (Int × Int)} {R : List (List (Int × Int))} {b : List (Int × Int)} {T : TB} {lx : List (Int × Int)} (hs : SolIs c.length R.length (fr37 R) (rl b) (rl c) T) (hz : c.length ≤ 24 ∧ R.length ≤ 24 ∧ R.length = b.length ∧ (∀ i, i < R.length → (mr R i).length = c.length) ∧ prL c = true ∧ prL b = true ∧ (∀ i, i < R.length → prL (mr R i) = true) ∧ ∀ i, i < b.length → 0 ≤ fv b i) (hx : NumsOf lx c.length (xB R.length T)) {k : Nat} (hk : k < R.length) :
    dotF (mr R k) lx = (0, 0, 5) ∨ ∃ z : Rat, (cmpF z.num z.den (fv b k) (fx b k) ≤ 0) ∧ dotF (mr R k) lx = (z.num, (z.den : Int), 0) := by
  have hp := hz.2.2.2.2.2.2.1 k hk
  have hl := hz.2.2.2.1 k hk
  have hN : NumsOf (mr R k) c.length (rl (mr R k)) := ⟨hl, fun j hj => rl_num (prL_iff.1 hp j (by omega))⟩
  rcases dot_rat hN hx (fun j hj => rl_rep (prL_iff.1 hp j (by omega))) (fun j _ => hs.xr j) with h | ⟨h, hr⟩
  · exact .inl h
  · refine .inr ⟨_, ?_, h⟩
    have h1 := hs.pf.2 k hk
    have hb := prL_iff.1 hz.2.2.2.2.2.1 k (by have := hz.2.2.1; omega)
    obtain ⟨e1, e2⟩ := rl_num hb
    have hle : (sg c.length fun j => rl (mr R k) j * xB R.length T j) ≤ rl b k := h1
    rw [← e1, ← e2, cmp_rat hr (rl_rep hb)]
    split
    · decide
    · split
      · rename_i h3 h4; grind
      · decide
/-- A column. -/
def cln (R : List (List (Int × Int))) (j k : Nat) : List (Int × Int) := (List.range k).map fun i => (fv (mr R i) j, fx (mr R i) j)
theorem cln_len (R : List (List (Int × Int))) (j k : Nat) : (cln R j k).length = k := by unfold cln; simp
theorem cln_succ (R : List (List (Int × Int))) (j k : Nat) : cln R j (k + 1) = cln R j k ++ [(fv (mr R k) j, fx (mr R k) j)] := by unfold cln; rw [List.range_succ, List.map_append]; rfl
theorem sol_col {c : List (Int × Int)} {R : List (List (Int × Int))} {b : List (Int × Int)} {T : TB} {ly : List (Int × Int)} (hs : SolIs c.length R.length (fr37 R) (rl b) (rl c) T) (hz : c.length ≤ 24 ∧ R.length ≤ 24 ∧ R.length = b.length ∧ (∀ i, i < R.length → (mr R i).length = c.length) ∧ prL c = true ∧ prL b = true ∧ (∀ i, i < R.length → prL (mr R i) = true) ∧ ∀ i, i < b.length → 0 ≤ fv b i) (hy : NumsOf ly R.length (fun i => -T.c (c.length + i))) {j : Nat} (hj : j < c.length) :
    dotF (cln R j R.length) ly = (0, 0, 5) ∨ ∃ z : Rat, (0 ≤ cmpF z.num z.den (fv c j) (fx c j)) ∧ dotF (cln R j R.length) ly = (z.num, (z.den : Int), 0) := by
  have hp := fun i hi => prL_iff.1 (hz.2.2.2.2.2.2.1 i hi) j (by rw [hz.2.2.2.1 i hi]; exact hj)
  have hN : NumsOf (cln R j R.length) R.length (fun i => fr37 R i j) := ⟨cln_len _ _ _, fun i hi => by
    have e1 : fv (cln R j R.length) i = fv (mr R i) j := by unfold cln; simp [fv, List.getD, hi]
    have e2 : fx (cln R j R.length) i = fx (mr R i) j := by unfold cln; simp [fx, List.getD, hi]
    rw [e1, e2]
    exact rl_num (hp i hi)⟩
  rcases dot_rat hN hy (fun i hi => rl_rep (hp i hi)) (fun i hi => hs.yr hi) with h | ⟨h, hr⟩
  · exact .inl h
  · refine .inr ⟨_, ?_, h⟩
    have h1 := hs.df.2 j hj
    have hb := prL_iff.1 hz.2.2.2.2.1 j hj
    obtain ⟨e1, e2⟩ := rl_num hb
    have hle : rl c j ≤ (sg R.length fun i => fr37 R i j * -T.c (c.length + i)) := h1
    rw [← e1, ← e2, cmp_rat hr (rl_rep hb)]
    split
    · rename_i h3; grind
    · split <;> decide
end Go.Proofs.Ytaampjhdgeoicaa
