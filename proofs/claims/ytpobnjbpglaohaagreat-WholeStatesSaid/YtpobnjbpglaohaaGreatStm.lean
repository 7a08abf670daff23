/- Boxes, stores of many cells (they name the world behind), what is there. -/
import Derived.Test.YtpobnjbpglaohaaGreatWgD
import Derived.Test.YtpobnjbpglaohaaGreatWgA
import Derived.Deep.MidRow
namespace Go.Proofs.YtpobnjbpglaohaaGreat
set_option linter.unusedSimpArgs false
set_option linter.unusedVariables false
open Go Go.RowKit
set_option linter.unusedVariables false

/-- A box: its cells. -/
def BxI (w : World) (X : Nat) (T : TypeId) (cs : Array Value) : Prop := w.heap[X]? = some (.cells cs T (0, 0))
section
variable {w w' : World} {X : Nat} {T : TypeId} {cs : Array Value}
theorem BxI.lt (h : BxI w X T cs) : X < w.heap.size := (Array.getElem?_eq_some_iff.1 h).1
theorem BxI.kb {bad : Nat → Prop} (h : BxI w X T cs) (k : Kb bad w w') (hx : ¬ bad X) : BxI w' X T cs := (k.block X h.lt hx).trans h
theorem BxI.up (h : BxI w X T cs) (k : Below w.heap.size w w') : BxI w' X T cs := (k.block X h.lt).trans h
theorem BxI.low {B : Nat} (h : BxI w X T cs) (k : Below B w w') (hx : X < B) : BxI w' X T cs := (k.block X hx).trans h
theorem BxI.new (w : World) (T : TypeId) (cs : Array Value) : BxI (w.alloc (.cells cs T)) w.heap.size T cs := heap_alloc_new _ _
theorem BxI.new2 (w : World) (o : Obj) (T : TypeId) (cs : Array Value) : BxI ((w.alloc o).alloc (.cells cs T)) (w.heap.size + 1) T cs := by
  have := BxI.new (w.alloc o) T cs
  rw [World.size_alloc] at this
  exact this
theorem BxI.cell (h : BxI w X T cs) (i : Nat) (v : Value) (hv : cs[i]? = some v) : w.cell? ⟨X, i, none⟩ = some v := by
  unfold BxI at h; simp [World.cell?, h, hv]
theorem BxI.fz (h : BxI w X T cs) (i : Nat) : w.frozen? ⟨X, i, none⟩ = false := by
  unfold BxI at h; simp [World.frozen?, h]
theorem BxI.far (h : BxI w X T cs) {p : Addr} (hp : X ≠ p.block) (u : Value) : BxI (w.setCell p u) X T cs := (Below.heap_setCell _ _ _ _ hp).trans h
theorem BxI.set (h : BxI w X T cs) (i : Nat) (u : Value) : BxI (w.setCell ⟨X, i, none⟩ u) X T (cs.setIfInBounds i u) := by
  unfold BxI at *; simp [World.setCell, Array.getElem?_modify, h]
theorem BxI.grown {row : Option Nat} (h : BxI w X T cs) (hg : w.grownBy w' row) (hx : some X ≠ row) : BxI w' X T cs := (hg.block X h.lt hx).trans h
theorem BxI.sets : ∀ (vs : List Value) (w : World) (pre old post : List Value), old.length = vs.length → BxI w X T (pre ++ old ++ post).toArray → BxI (w.setCells X pre.length vs) X T (pre ++ vs ++ post).toArray
  | [], w, pre, old, post, hl, h => by
    have : old = [] := List.length_eq_zero_iff.1 hl
    subst this
    exact h
  | v :: r, w, pre, [], post, hl, h => by cases hl
  | v :: r, w, pre, a :: q, post, hl, h => by
    have h1 := h.set pre.length v
    have e : (pre ++ a :: q ++ post).toArray.setIfInBounds pre.length v = (pre ++ [v] ++ q ++ post).toArray := by
      simp
    rw [e] at h1
    have h2 := BxI.sets r _ (pre ++ [v]) q post (by simpa using hl) h1
    rw [show (pre ++ [v]).length = pre.length + 1 by simp] at h2
    simpa [World.setCells] using h2
theorem BxI.setAll {old : Array Value} {vs : List Value} (h : BxI w X T old) (hl : old.size = vs.length) : BxI (w.setCells X 0 vs) X T vs.toArray := by
  have := BxI.sets vs w [] old.toList [] (by simpa using hl) (by simpa using h)
  simpa using this
theorem below_sets {B b : Nat} : ∀ (vs : List Value) (o : Nat) (w' : World), Below B w w' → B ≤ b → Below B w (w'.setCells b o vs)
  | [], o, w', h, _ => h
  | v :: r, o, w', h, hb => below_sets r (o + 1) _ (h.setCell (p := ⟨b, o, none⟩) hb v) hb
theorem there_blk {g i n : Nat} {cur : Array Value} {T : TypeId} (h : w.heap[g]? = some (.cells cur T (0, 0))) (hn : i + n ≤ cur.size) : w.there g i n := fun j hj => by
  have hl : i + j < cur.size := by omega
  refine ⟨?_, by simp [World.frozen?, h]⟩
  rw [cell_of_row w g (i + j) cur T (0, 0) h, Array.getElem?_eq_getElem hl]
  rfl
theorem there_set {b i n g k : Nat} {u : Value} (h : w.there b i n) : (w.setCell ⟨g, k, none⟩ u).there b i n := fun j hj => by
  obtain ⟨h1, h2⟩ := h j hj
  exact ⟨World.isSome_setCells g [u] k w _ h1, by rw [World.frozen?_setCell]; exact h2⟩
theorem there_sets {b i n g k : Nat} {us : List Value} (h : w.there b i n) : (w.setCells g k us).there b i n := fun j hj => by
  obtain ⟨h1, h2⟩ := h j hj
  exact ⟨World.isSome_setCells g us k w _ h1, by rw [World.frozen?_setCells]; exact h2⟩
theorem there_own {B n cap g s i m : Nat} {e : TypeId} {xs : List Value} (h : w.ownsRow B e s (.slice (some ⟨g, 0, none⟩) n cap) n xs) (hi : i + m ≤ n * s) : w.there g i m := fun j hj => by
  have hl : i + j < xs.length := by rw [h.1]; omega
  refine ⟨by rw [own_cell h (List.getElem?_eq_getElem hl)]; rfl, ?_⟩
  rcases h.2 with ⟨h0, _⟩ | ⟨b, cap', cur, h1, hb, hg, _⟩
  · cases h0
  · injection h1 with h1 _ _
    injection h1 with h1
    injection h1 with h1 _ _
    subst h1
    simp [World.frozen?, hg]
end
section
variable {P : Program} {ops : Array Oper} {o : Oper} {a : Act} {K : Act → World → Prop} {Q : Exit → Act → World → Prop} {E : Prop} {w : World}
/-- A store of a struct. -/
theorem step_stores (hgd : o.guard = .none) (ty : TypeId) (x y : Operand) (ho : o.op = .store ty x y) (b i : Nat) (vs : List Value)
    (hx : a.eval x = .pointer (some ⟨b, i, none⟩)) (hy : a.eval y = .agg vs.toArray) (ht : w.there b i vs.length) (hi : (P.info? ty).map (·.size) = some vs.length)
    (h1 : ∀ v ∈ vs, v.oneCell' = true) (h : ∀ w', Hid (w' = w.setCells b i vs) → K (a.put o.dst undef) w') :
    if Region.wanted o (yielded ops a.tmps) = true then Oper.wp P o a w K Q else E := by
  have hw : Region.wanted o (yielded ops a.tmps) = true := by simp [Region.wanted, hgd]
  rw [if_pos hw]
  exact wp_store_mid ty x y ho b i vs.toArray hx hy (by simpa using ht) (by simpa using hi) (all_oneCell_toArray h1) (h _ (Lib.hid (by simp)))
theorem wpList_stores {rest : List Oper} (hgd : o.guard = .none) (ty : TypeId) (x y : Operand) (ho : o.op = .store ty x y) (b i : Nat) (vs : List Value)
    (hx : a.eval x = .pointer (some ⟨b, i, none⟩)) (hy : a.eval y = .agg vs.toArray) (ht : w.there b i vs.length) (hi : (P.info? ty).map (·.size) = some vs.length)
    (h1 : ∀ v ∈ vs, v.oneCell' = true) (h : ∀ w', Hid (w' = w.setCells b i vs) → wpList P ops Q rest (a.put o.dst undef) w') :
    wpList P ops Q (o :: rest) a w :=
  wpList_plain hgd fun _ hK => wp_store_mid ty x y ho b i vs.toArray hx hy (by simpa using ht) (by simpa using hi) (all_oneCell_toArray h1) (hK _ _ (h _ (Lib.hid (by simp))))
/-- A store of one cell. -/
theorem run_storeAt_one (b i : Nat) (ty : TypeId) (v : Value) (hv : v.cells = #[v]) (ht : w.there b i 1) (hi : (P.info? ty).map (·.size) = some 1) (h1 : v.oneCell' = true) :
    (Instr.storeAt ty (.pointer (some ⟨b, i, none⟩)) v).run P w = .ok () (w.setCell ⟨b, i, none⟩ v) := by
  have := run_storeCells_cells (P := P) b i [v] 0 w (fun j hj => by simpa using (ht j (by simpa using hj)).1) (fun j hj => by simpa using (ht j (by simpa using hj)).2)
    (fun u hu => by simp at hu; subst hu; exact h1)
  cases hq : P.info? ty with
  | none => simp [hq] at hi
  | some t =>
    have hs : t.size = 1 := by simpa [hq] using hi
    simp only [Nat.add_zero] at this
    simp only [Instr.storeAt, Instr.sureAddr, Sem.run_bind, Sem.run_pure, Result.andThen_ok, storeVar, sizeOf, typeInfo, hq, hv, hs]
    simp [Sem.run_bind, this, hq, hs]
    rfl
theorem step_store1 (hgd : o.guard = .none) (ty : TypeId) (x y : Operand) (ho : o.op = .store ty x y) (b i : Nat) (v : Value) (hv : v.cells = #[v])
    (hx : a.eval x = .pointer (some ⟨b, i, none⟩)) (hy : a.eval y = v) (ht : w.there b i 1) (hi : (P.info? ty).map (·.size) = some 1)
    (h1 : v.oneCell' = true) (h : ∀ w', Hid (w' = w.setCell ⟨b, i, none⟩ v) → K (a.put o.dst undef) w') :
    if Region.wanted o (yielded ops a.tmps) = true then Oper.wp P o a w K Q else E := by
  have hw : Region.wanted o (yielded ops a.tmps) = true := by simp [Region.wanted, hgd]
  rw [if_pos hw]
  unfold Oper.wp execOp
  simp only [ho, hx, hy, Sem.run_bind, run_storeAt_one b i ty v hv ht hi h1, Sem.run_pure, Result.andThen_ok]
  exact h _ (Lib.hid rfl)
theorem wpList_store1 {rest : List Oper} (hgd : o.guard = .none) (ty : TypeId) (x y : Operand) (ho : o.op = .store ty x y) (b i : Nat) (v : Value) (hv : v.cells = #[v])
    (hx : a.eval x = .pointer (some ⟨b, i, none⟩)) (hy : a.eval y = v) (ht : w.there b i 1) (hi : (P.info? ty).map (·.size) = some 1)
    (h1 : v.oneCell' = true) (h : ∀ w', Hid (w' = w.setCell ⟨b, i, none⟩ v) → wpList P ops Q rest (a.put o.dst undef) w') : wpList P ops Q (o :: rest) a w :=
  wpList_plain hgd fun K' hK => by
    unfold Oper.wp execOp
    simp only [ho, hx, hy, Sem.run_bind, run_storeAt_one b i ty v hv ht hi h1, Sem.run_pure, Result.andThen_ok]
    exact hK _ _ (h _ (Lib.hid rfl))
end
end Go.Proofs.YtpobnjbpglaohaaGreat
