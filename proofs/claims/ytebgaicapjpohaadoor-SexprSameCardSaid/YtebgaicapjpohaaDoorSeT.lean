/- Stores into two blocks, in either order. -/
import Derived.Test.YtebgaicapjpohaaDoorSeQ
import Derived.Deep.MidRow
namespace Go.Proofs.YtebgaicapjpohaaDoor
set_option linter.unusedSimpArgs false
set_option linter.unusedVariables false
open Go Go.RowKit
set_option linter.unusedVariables false

theorem set_comm (w : World) {p q : Addr} (h : p.block ≠ q.block) (u v : Value) : (w.setCell p u).setCell q v = (w.setCell q v).setCell p u := by
  unfold World.setCell
  dsimp only
  congr 1
  apply Array.ext
  · simp
  · intro i h1 h2
    simp only [Array.getElem_modify]
    by_cases e1 : p.block = i <;> by_cases e2 : q.block = i <;> simp [e1, e2]
    exact absurd (e1.trans e2.symm) h
theorem set6_comm (w : World) {g i : Nat} {q : Addr} (h : g ≠ q.block) (v0 v1 v2 v3 v4 v5 v : Value) : set6 (w.setCell q v) g i v0 v1 v2 v3 v4 v5 = (set6 w g i v0 v1 v2 v3 v4 v5).setCell q v := by
  unfold set6
  have hs : ∀ (w : World) j x, (w.setCell q v).setCell ⟨g, j, none⟩ x = (w.setCell ⟨g, j, none⟩ x).setCell q v := fun w j x => (set_comm w (p := ⟨g, j, none⟩) (q := q) h x v).symm
  rw [hs, hs, hs, hs, hs, hs]
section
variable {P : Program} {ops : Array Oper} {o : Oper} {a : Act} {K : Act → World → Prop} {Q : Exit → Act → World → Prop} {E : Prop} {w : World}
/-- A store of six cells. -/
theorem step_store6 (hgd : o.guard = .none) (ty : TypeId) (x y : Operand) (ho : o.op = .store ty x y) (b i : Nat) (v0 v1 v2 v3 v4 v5 : Value)
    (hx : a.eval x = .pointer (some ⟨b, i, none⟩)) (hy : a.eval y = .agg #[v0, v1, v2, v3, v4, v5]) (ht : w.there b i 6) (hi : (P.info? ty).map (·.size) = some 6)
    (h1 : ∀ v ∈ [v0, v1, v2, v3, v4, v5], v.oneCell' = true) (h : ∀ w', Hid (w' = set6 w b i v0 v1 v2 v3 v4 v5) → K (a.put o.dst undef) w') :
    if Region.wanted o (yielded ops a.tmps) = true then Oper.wp P o a w K Q else E := by
  have hw : Region.wanted o (yielded ops a.tmps) = true := by simp [Region.wanted, hgd]
  rw [if_pos hw]
  exact wp_store_mid ty x y ho b i #[v0, v1, v2, v3, v4, v5] hx hy ht hi (all_oneCell_toArray h1) (h _ (Lib.hid rfl))
theorem wpList_store6 {rest : List Oper} {Q : Exit → Act → World → Prop} (hgd : o.guard = .none) (ty : TypeId) (x y : Operand) (ho : o.op = .store ty x y) (b i : Nat) (v0 v1 v2 v3 v4 v5 : Value)
    (hx : a.eval x = .pointer (some ⟨b, i, none⟩)) (hy : a.eval y = .agg #[v0, v1, v2, v3, v4, v5]) (ht : w.there b i 6) (hi : (P.info? ty).map (·.size) = some 6)
    (h1 : ∀ v ∈ [v0, v1, v2, v3, v4, v5], v.oneCell' = true) (h : ∀ w', Hid (w' = set6 w b i v0 v1 v2 v3 v4 v5) → wpList P ops Q rest (a.put o.dst undef) w') :
    wpList P ops Q (o :: rest) a w :=
  wpList_plain hgd fun _ hK => wp_store_mid ty x y ho b i #[v0, v1, v2, v3, v4, v5] hx hy ht hi (all_oneCell_toArray h1) (hK _ _ (h _ (Lib.hid rfl)))
/-- A store of one cell. -/
theorem run_storeAt_one (b i : Nat) (ty : TypeId) (v : Value) (hv : v.cells = #[v]) (ht : w.there b i 1) (hi : (P.info? ty).map (·.size) = some 1) (h1 : v.oneCell' = true) :
    (Instr.storeAt ty (.pointer (some ⟨b, i, none⟩)) v).run P w = .ok () (w.setCell ⟨b, i, none⟩ v) := by
  have := run_storeCells_cells (P := P) b i [v] 0 w (fun j hj => by simpa using (ht j (by simpa using hj)).1) (fun j hj => by simpa using (ht j (by simpa using hj)).2)
    (fun u hu => by simp at hu; subst hu; exact h1)
  cases hq : P.info? ty with
  | none => simp [hq] at hi
  | some t =>
    have hs : t.size = 1 := by simpa [hq] using hi
    simp only [Nat.add_zero] at this
    simp only [Instr.storeAt, Instr.sureAddr, Sem.run_bind, Sem.run_pure, Result.andThen_ok, storeVar, sizeOf, typeInfo, hq, hv, hs]
    simp [Sem.run_bind, this, hq, hs]
    rfl
theorem step_store1 (hgd : o.guard = .none) (ty : TypeId) (x y : Operand) (ho : o.op = .store ty x y) (b i : Nat) (v : Value) (hv : v.cells = #[v])
    (hx : a.eval x = .pointer (some ⟨b, i, none⟩)) (hy : a.eval y = v) (ht : w.there b i 1) (hi : (P.info? ty).map (·.size) = some 1)
    (h1 : v.oneCell' = true) (h : ∀ w', Hid (w' = w.setCell ⟨b, i, none⟩ v) → K (a.put o.dst undef) w') :
    if Region.wanted o (yielded ops a.tmps) = true then Oper.wp P o a w K Q else E := by
  have hw : Region.wanted o (yielded ops a.tmps) = true := by simp [Region.wanted, hgd]
  rw [if_pos hw]
  unfold Oper.wp execOp
  simp only [ho, hx, hy, Sem.run_bind, run_storeAt_one b i ty v hv ht hi h1, Sem.run_pure, Result.andThen_ok]
  exact h _ (Lib.hid rfl)
theorem there_set {b i n g k : Nat} {u : Value} (h : w.there b i n) : (w.setCell ⟨g, k, none⟩ u).there b i n := fun j hj => by
  obtain ⟨h1, h2⟩ := h j hj
  exact ⟨World.isSome_setCells g [u] k w _ h1, by rw [World.frozen?_setCell]; exact h2⟩
theorem there_set6 {b i n g k : Nat} {v0 v1 v2 v3 v4 v5 : Value} (h : w.there b i n) : (set6 w g k v0 v1 v2 v3 v4 v5).there b i n :=
  there_set (there_set (there_set (there_set (there_set (there_set h)))))
theorem BxI.set6 {X : Nat} {T : TypeId} {a0 a1 a2 a3 a4 a5 v0 v1 v2 v3 v4 v5 : Value} (h : BxI w X T #[a0, a1, a2, a3, a4, a5]) : BxI (set6 w X 0 v0 v1 v2 v3 v4 v5) X T #[v0, v1, v2, v3, v4, v5] := by
  have h0 : BxI _ X T #[v0, a1, a2, a3, a4, a5] := BxI.set h 0 v0
  have h1 : BxI _ X T #[v0, v1, a2, a3, a4, a5] := BxI.set h0 1 v1
  have h2 : BxI _ X T #[v0, v1, v2, a3, a4, a5] := BxI.set h1 2 v2
  have h3 : BxI _ X T #[v0, v1, v2, v3, a4, a5] := BxI.set h2 3 v3
  have h4 : BxI _ X T #[v0, v1, v2, v3, v4, a5] := BxI.set h3 4 v4
  have h5 : BxI _ X T #[v0, v1, v2, v3, v4, v5] := BxI.set h4 5 v5
  exact h5
theorem below_set6 {B g i : Nat} {w' : World} {v0 v1 v2 v3 v4 v5 : Value} (h : Below B w w') (hg : B ≤ g) : Below B w (set6 w' g i v0 v1 v2 v3 v4 v5) :=
  (((((h.setCell (p := ⟨g, i, none⟩) hg v0).setCell (p := ⟨g, i + 1, none⟩) hg v1).setCell (p := ⟨g, i + 2, none⟩) hg v2).setCell (p := ⟨g, i + 3, none⟩) hg v3).setCell (p := ⟨g, i + 4, none⟩) hg v4).setCell (p := ⟨g, i + 5, none⟩) hg v5
theorem there_blk {g i n : Nat} {cur : Array Value} {T : TypeId} (h : w.heap[g]? = some (.cells cur T (0, 0))) (hn : i + n ≤ cur.size) : w.there g i n := fun j hj => by
  have hl : i + j < cur.size := by omega
  refine ⟨?_, by simp [World.frozen?, h]⟩
  rw [cell_of_row w g (i + j) cur T (0, 0) h, Array.getElem?_eq_getElem hl]
  rfl
theorem there_own {B n cap g s i m : Nat} {e : TypeId} {xs : List Value} (h : w.ownsRow B e s (.slice (some ⟨g, 0, none⟩) n cap) n xs) (hi : i + m ≤ n * s) : w.there g i m := fun j hj => by
  have hl : i + j < xs.length := by rw [h.1]; omega
  refine ⟨by rw [own_cell h (List.getElem?_eq_getElem hl)]; rfl, ?_⟩
  rcases h.2 with ⟨h0, _⟩ | ⟨b, cap', cur, h1, hb, hg, _⟩
  · cases h0
  · injection h1 with h1 _ _
    injection h1 with h1
    injection h1 with h1 _ _
    subst h1
    simp [World.frozen?, hg]
end
end Go.Proofs.YtebgaicapjpohaaDoor
