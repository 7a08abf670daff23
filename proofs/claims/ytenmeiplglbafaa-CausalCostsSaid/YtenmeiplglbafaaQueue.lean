/- A queue of numbers: a slice of the call's own at whatever offset, appended to, cut in front. -/
import Derived.Test.YtenmeiplglbafaaOwn
import Derived.ArgAppend
namespace Go.Proofs.Ytenmeiplglbafaa
set_option linter.unusedSimpArgs false
set_option linter.unusedVariables false
open Go Go.RowKit
set_option linter.unusedVariables false

def Queue (w : World) (base : Nat) (v : Value) (l : List Int) : Prop := ∃ A c, v = .slice A l.length c ∧ (A = none → l = [] ∧ c = 0) ∧ ∀ b, A = some b → ∃ g off cur, b = ⟨g, off, none⟩ ∧ base ≤ g ∧ w.heap[g]? = some (.cells cur 3 (0, 0)) ∧ l.length ≤ c ∧ c ≤ maxLen ∧ off + c ≤ cur.size ∧ ∀ i, i < l.length → cur[off + i]? = some (.int .i64 (nth l i))
theorem Queue.nil (w : World) (base : Nat) : Queue w base (.slice none 0 0) [] := ⟨none, 0, rfl, fun _ => ⟨rfl, rfl⟩, fun b h => by cases h⟩
section
variable {w w' : World} {base : Nat} {v : Value} {l : List Int}
theorem Queue.of (h : Queue w base v l) (hb : ∀ g, v.ownBlock = some g → w'.heap[g]? = w.heap[g]?) : Queue w' base v l := by
  obtain ⟨A, c, rfl, h0, h1⟩ := h
  refine ⟨A, c, rfl, h0, fun b hA => ?_⟩
  obtain ⟨g, off, cur, rfl, a1, a2, a3⟩ := h1 b hA
  exact ⟨g, off, cur, rfl, a1, (hb g (by subst hA; rfl)).trans a2, a3⟩
theorem Queue.blk (h : Queue w base v l) {g : Nat} (hg : v.ownBlock = some g) : base ≤ g ∧ g < w.heap.size ∧ ∃ cur, w.heap[g]? = some (.cells cur 3 (0, 0)) := by
  obtain ⟨A, c, rfl, h0, h1⟩ := h
  cases A with
  | none => simp [Value.ownBlock] at hg
  | some b =>
    obtain ⟨g', off, cur, rfl, a1, a2, _⟩ := h1 b rfl
    have : g' = g := by simpa [Value.ownBlock] using hg
    subst this
    exact ⟨a1, (Array.getElem?_eq_some_iff.1 a2).1, cur, a2⟩
theorem Queue.up (h : Queue w base v l) (hb : Below w.heap.size w w') : Queue w' base v l := h.of fun g hg => hb.block g (h.blk hg).2.1
theorem Queue.alloc (h : Queue w base v l) (o : Obj) : Queue (w.alloc o) base v l := h.up ((Below.refl _ _).alloc (Nat.le_refl _) _)
/-- A row of another element type lies in another block. -/
theorem Queue.ne (h : Queue w base v l) {b : Nat} {t : TypeId} {n : Nat} {f : Nat → Value} (hr : w.rowIs b t n f) (hne : t ≠ 3) : some b ≠ v.ownBlock := by
  intro he
  obtain ⟨_, _, cur, hc⟩ := h.blk he.symm
  obtain ⟨c, hb, _⟩ := hr
  rw [hb] at hc
  injection hc with hc
  injection hc with _ ht
  exact hne ht
theorem Queue.far (h : Queue w base v l) {p : Addr} (hp : some p.block ≠ v.ownBlock) (u : Value) : Queue (w.setCell p u) base v l :=
  h.of fun g hg => Below.heap_setCell _ _ _ _ (fun e => hp (by rw [← e, hg]))
/-- What the front is, where it lies. -/
theorem Queue.front (h : Queue w base v l) (hl : 0 < l.length) : ∃ g off c, v = .slice (some ⟨g, off, none⟩) l.length c ∧ l.length ≤ c ∧ c ≤ maxLen ∧ g < w.heap.size ∧ w.cell? ⟨g, off, none⟩ = some (.int .i64 (nth l 0)) := by
  obtain ⟨A, c, rfl, h0, h1⟩ := h
  cases A with
  | none => obtain ⟨rfl, _⟩ := h0 rfl; simp at hl
  | some b =>
    obtain ⟨g, off, cur, rfl, a1, a2, a3, a4, a5, a6⟩ := h1 b rfl
    refine ⟨g, off, c, rfl, a3, a4, (Array.getElem?_eq_some_iff.1 a2).1, ?_⟩
    have := a6 0 hl
    simp [World.cell?, a2]
    simpa using this
theorem nth_tail (l : List Int) (i : Nat) : nth l.tail i = nth l (i + 1) := by
  cases l with
  | nil => simp [nth]
  | cons x l => simp [nth, List.getD]
theorem Queue.pop {g off c : Nat} (h : Queue w base (.slice (some ⟨g, off, none⟩) l.length c) l) (hl : 0 < l.length) : Queue w base (.slice (some ⟨g, if c = 1 then off else off + 1, none⟩) (l.length - 1) (c - 1)) l.tail := by
  obtain ⟨A, c', e, h0, h1⟩ := h
  injection e with e1 e2 e3
  subst e1 e3
  obtain ⟨g', off', cur, e4, a1, a2, a3, a4, a5, a6⟩ := h1 _ rfl
  injection e4 with e5 e6
  subst e5 e6
  refine ⟨_, c - 1, by rw [List.length_tail], fun e => (by cases e), fun b hb => ?_⟩
  injection hb with hb
  refine ⟨g, if c = 1 then off else off + 1, cur, hb.symm, a1, a2, by rw [List.length_tail]; omega, by omega, by split <;> omega, fun i hi => ?_⟩
  rw [List.length_tail] at hi
  rw [if_neg (by omega), nth_tail, Nat.add_assoc, Nat.add_comm 1 i]
  exact a6 (i + 1) (by omega)
end

section
variable {P : Program} {w : World}
theorem nth_snoc (l : List Int) (x : Int) (i : Nat) (hi : i < l.length + 1) : nth (l ++ [x]) i = if i < l.length then nth l i else x := by
  unfold nth
  split
  · rename_i h; simp [List.getD, List.getElem?_append_left h]
  · rename_i h; have : i = l.length := by omega
    subst this; simp [List.getD]
theorem wpList_queue {ops : Array Oper} {rest : List Oper} {o : Oper} {a : Act} {Q : Exit → Act → World → Prop} (hgd : o.guard = .none) (s x : Operand) (t : TypeId)
    (ho : o.op = .call { callee := .builtin .append, args := #[s, x], argTypes := #[t, t] })
    (i : TypeInfo) (ht : P.underlying t = some (.slice 3)) (hi : P.info? 3 = some i) (hz : i.zero = some (.int .i64 0)) (hsize : i.size = 1) (hby : i.bytes = 8)
    (base : Nat) (v : Value) (l : List Int) (hs : a.eval s = v) (hq : Queue w base v l)
    (H : Nat) (T : TypeId) (y : Int) (hx : a.eval x = .slice (some ⟨H, 0, none⟩) 1 1) (hH : w.heap[H]? = some (.cells #[.int .i64 y] T (0, 0)))
    (hn : l.length ≤ 10000000) (hbase : base ≤ w.heap.size) {W : World} {B : Nat} (hB : Below B W w) (hBb : B ≤ base)
    (h : ∀ v' w', Queue w' base v' (l ++ [y]) → w.grownBy w' v.ownBlock → (∀ g, v'.ownBlock = some g → v.ownBlock = some g ∨ w.heap.size ≤ g) → Below B W w' → wpList P ops Q rest (a.put o.dst v') w') :
    wpList P ops Q (o :: rest) a w := by
  have hnews : ∀ j u, [Value.int .i64 y][j]? = some u → w.cell? ((⟨H, 0, none⟩ : Addr).add j) = some u := cells_of_block (news := [.int .i64 y]) (by simpa using hH)
  have hq0 := hq
  obtain ⟨A, c, rfl, h0, h1⟩ := hq
  cases A with
  | none =>
    obtain ⟨rfl, rfl⟩ := h0 rfl
    refine wpList_append_own_at w hgd s x t ho base 3 i (.int .i64 0) 1 8 ht hi hz hsize hby rfl (by decide) (.slice none 0 0) 0 [] hs (World.ownsRow_nil _ _ _ _) ⟨H, 0, none⟩ 1 1 [.int .i64 y] hx rfl hnews (one_one rfl) (by unfold maxLen; omega) (by omega) hbase ?_
    intro v' w' h2 h3 _ h5
    refine h v' w' ?_ h3 (fun g hg => by rcases h5 with h5 | h5 <;> rw [h5] at hg; exact .inl hg; cases hg; exact .inr (Nat.le_refl _)) (hB.grown h3 (by omega) fun k hk => by simp [Value.ownBlock] at hk)
    rcases h2.2 with ⟨_, h6⟩ | ⟨g, cap, cur, rfl, hb, hg, hnc, hcm, hcs, htk⟩
    · omega
    · refine ⟨_, cap, rfl, fun e => (by cases e), fun b e => ?_⟩
      injection e with e
      refine ⟨g, 0, cur, e.symm, hb, hg, by simpa using hnc, hcm, by omega, fun k hk => ?_⟩
      have hk0 : k = 0 := by simp at hk; omega
      subst hk0
      have h7 : (cur.toList.take ((0 + 1) * 1))[0]? = some (.int .i64 y) := by rw [htk]; rfl
      rw [List.getElem?_take, if_pos (by omega)] at h7
      simpa [nth] using h7
  | some b =>
    obtain ⟨g, off, cur, rfl, a1, a2, a3, a4, a5, a6⟩ := h1 b rfl
    have hcell : ∀ k, k < c → w.cell? ⟨g, off + k, none⟩ = cur[off + k]? := fun k _ => cell_of_row w g (off + k) cur 3 (0, 0) a2
    refine wpList_append_arg w hgd s x t ho 3 i (.int .i64 0) 1 8 ht hi hz hsize hby rfl (by decide) g off l.length c (l.map (.int .i64)) hs (by simp) (fun j u hj => ?_) ⟨H, 0, none⟩ 1 1 [.int .i64 y] hx rfl hnews (one_one rfl) (fun hr j hj => ?_) (by unfold maxLen; omega) (by omega) (fun hr => ?_) (fun hr v' w' h2 h3 => ?_)
    · have hlt : j < l.length := by have := (List.getElem?_eq_some_iff.1 hj).1; simpa using this
      rw [hcell j (by omega), a6 j hlt]
      rw [List.getElem?_map, List.getElem?_eq_getElem hlt] at hj
      cases hj
      unfold nth; simp [List.getD, List.getElem?_eq_getElem hlt]
    · have hj0 : j = 0 := by simp at hj; omega
      subst hj0
      refine ⟨?_, by simp [World.frozen?, a2]⟩
      rw [show off + l.length * 1 + 0 = off + l.length by omega, hcell _ (by omega)]
      rw [Array.getElem?_eq_getElem (by omega)]; rfl
    · have hw : w.setCells g (off + l.length * 1) [.int .i64 y] = w.setCell ⟨g, off + l.length, none⟩ (.int .i64 y) := by rw [Nat.mul_one]; rfl
      rw [hw]
      refine h _ _ ⟨_, c, by rw [List.length_append]; rfl, fun e => (by cases e), fun b e => ?_⟩ ⟨rfl, rfl, rfl, by simp [World.setCell], fun k hk hne => Below.heap_setCell _ _ _ _ (fun e => hne (by rw [e]; rfl))⟩ (fun g hg => .inl hg) (hB.setCell (by show B ≤ g; omega) _)
      injection e with e
      refine ⟨g, off, cur.setIfInBounds (off + l.length) (.int .i64 y), e.symm, a1, by simp [World.setCell, Array.getElem?_modify, a2], by rw [List.length_append]; simpa using hr, a4, by simpa using a5, fun k hk => ?_⟩
      rw [List.length_append] at hk
      rw [nth_snoc l y k (by simpa using hk), Array.getElem?_setIfInBounds]
      by_cases e2 : k < l.length
      · rw [if_neg (by omega), if_pos e2]; exact a6 k e2
      · rw [if_pos (by simp at hk; omega), if_neg e2, if_pos (by simp at hk; omega)]
    · refine h v' w' ?_ ⟨h3.os, h3.tape, h3.output, h3.size, fun k hk _ => h3.block k hk (by simp)⟩ ?_ (hB.grown h3 (by omega) fun k hk => by cases hk)
      · rcases h2.2 with ⟨_, h6⟩ | ⟨g', cap, cur', rfl, hb, hg, hnc, hcm, hcs, htk⟩
        · omega
        · refine ⟨_, cap, by rw [List.length_append]; rfl, fun e => (by cases e), fun b e => ?_⟩
          injection e with e
          refine ⟨g', 0, cur', e.symm, by omega, hg, by rw [List.length_append]; simpa using hnc, hcm, by omega, fun k hk => ?_⟩
          rw [List.length_append] at hk
          have h7 : (cur'.toList.take ((l.length + 1) * 1))[k]? = some (.int .i64 (nth (l ++ [y]) k)) := by
            rw [htk, nth_snoc l y k (by simpa using hk)]
            by_cases e2 : k < l.length
            · rw [if_pos e2, List.getElem?_append_left (by simpa using e2), List.getElem?_map, List.getElem?_eq_getElem e2]
              unfold nth; simp [List.getD, List.getElem?_eq_getElem e2]
            · have : k = l.length := by simp at hk; omega
              subst this
              rw [if_neg e2, List.getElem?_append_right (by simp)]; simp
          rw [List.getElem?_take, if_pos (by simp at hk; omega)] at h7
          simpa using h7
      · rcases h2.2 with ⟨_, h6⟩ | ⟨g', cap, cur', rfl, hb, hg, hnc, hcm, hcs, htk⟩
        · omega
        · intro k hk
          have : g' = k := by simpa [Value.ownBlock] using hk
          subst this
          exact .inr hb
end

end Go.Proofs.Ytenmeiplglbafaa
