/- Lists of facts, of effects, of operators in memory, laid outside some blocks: what a row that grows leaves of them. -/
import Derived.Test.YtenmeiplglbafaaTaskD
import Derived.Test.YtenmeiplglbafaaOwn
import Derived.Test.YtenmeiplglbafaaApp
namespace Go.Proofs.Ytenmeiplglbafaa
set_option linter.unusedSimpArgs false
set_option linter.unusedVariables false
open Go Go.RowKit
set_option linter.unusedVariables false

def Fac (w : World) (bad : Nat → Prop) (A : Option Addr) (l : List (Int × Int)) : Prop :=
  l.length ≤ 140737488355328 ∧ (0 < l.length → ∃ b off, A = some ⟨b, off, none⟩ ∧ b < w.heap.size ∧ ¬ bad b ∧ ∀ k, k < l.length → w.cell? ⟨b, off + k * 2, none⟩ = some (.int .i64 (fv l k)) ∧ w.cell? ⟨b, off + k * 2 + 1, none⟩ = some (.int .i64 (fx l k)))
/-- Effects, their conditions too. -/
def Efs (w : World) (bad : Nat → Prop) (A : Option Addr) (l : List Eff) : Prop :=
  l.length ≤ 140737488355328 ∧ (0 < l.length → ∃ b off, A = some ⟨b, off, none⟩ ∧ b < w.heap.size ∧ ¬ bad b ∧ ∀ k, k < l.length → ∃ S c,
    w.cell? ⟨b, off + k * 3, none⟩ = some (.slice S (eff l k).whn.length c) ∧ Fac w bad S (eff l k).whn ∧
    w.cell? ⟨b, off + k * 3 + 1, none⟩ = some (.int .i64 (eff l k).var) ∧ w.cell? ⟨b, off + k * 3 + 2, none⟩ = some (.int .i64 (eff l k).val))
/-- The cells of a row of effects, of operators. -/
def EfIs (w : World) (bad : Nat → Prop) (xs : List Value) (l : List Eff) : Prop :=
  xs.length = l.length * 3 ∧ ∀ k, k < l.length → ∃ S c, xs[k * 3]? = some (.slice S (eff l k).whn.length c) ∧ Fac w bad S (eff l k).whn ∧ xs[k * 3 + 1]? = some (.int .i64 (eff l k).var) ∧ xs[k * 3 + 2]? = some (.int .i64 (eff l k).val)
def OpIs (w : World) (bad : Nat → Prop) (xs : List Value) (l : List Opr) : Prop :=
  xs.length = l.length * 4 ∧ ∀ k, k < l.length → ∃ S c T d, xs[k * 4]? = some (.string (opr l k).name) ∧ (opr l k).name.size ≤ 140737488355328 ∧ xs[k * 4 + 1]? = some (.int .i64 (opr l k).cost) ∧
    xs[k * 4 + 2]? = some (.slice S (opr l k).pre.length c) ∧ Fac w bad S (opr l k).pre ∧ xs[k * 4 + 3]? = some (.slice T (opr l k).effs.length d) ∧ Efs w bad T (opr l k).effs

section
variable {w w' : World} {bad bad' : Nat → Prop} {A : Option Addr}
/-- Blocks that lie at good places are kept; what is bad then was bad. -/
structure Moves (w w' : World) (bad bad' : Nat → Prop) : Prop where
  size : w.heap.size ≤ w'.heap.size
  block : ∀ b, b < w.heap.size → ¬ bad b → w'.heap[b]? = w.heap[b]?
  bad : ∀ b, b < w.heap.size → bad' b → bad b
theorem Moves.cell (h : Moves w w' bad bad') {p : Addr} (hp : p.block < w.heap.size) (hb : ¬ bad p.block) : w'.cell? p = w.cell? p := World.cell?_of_block (w := w) (h.block _ hp hb)
theorem Moves.up (hb : Below w.heap.size w w') : Moves w w' bad bad := ⟨hb.size, fun b h _ => hb.block b h, fun _ _ h => h⟩
theorem Moves.grown {row : Option Nat} (hg : w.grownBy w' row) (hr : ∀ b, row = some b → bad b) (hb : ∀ b, b < w.heap.size → bad' b → bad b) : Moves w w' bad bad' :=
  ⟨hg.size, fun b h hn => hg.block b h fun e => hn (hr b e.symm), hb⟩
theorem Moves.set {p : Addr} (u : Value) (hp : bad p.block) : Moves w (w.setCell p u) bad bad :=
  ⟨by simp [World.setCell], fun b h hn => Below.heap_setCell _ _ _ _ (fun e => hn (by rw [e]; exact hp)), fun _ _ h => h⟩
theorem Moves.mono (hb : ∀ b, b < w.heap.size → bad' b → bad b) : Moves w w bad bad' := ⟨Nat.le_refl _, fun _ _ _ => rfl, hb⟩
theorem Moves.trans {w'' : World} {bad'' : Nat → Prop} (h : Moves w w' bad bad') (k : Moves w' w'' bad' bad'') : Moves w w'' bad bad'' :=
  ⟨Nat.le_trans h.size k.size, fun b hb hn => (k.block b (Nat.lt_of_lt_of_le hb h.size) fun h2 => hn (h.bad b hb h2)).trans (h.block b hb hn), fun b hb hn => h.bad b hb (k.bad b (Nat.lt_of_lt_of_le hb h.size) hn)⟩
theorem Fac.move {l : List (Int × Int)} (h : Fac w bad A l) (m : Moves w w' bad bad') : Fac w' bad' A l :=
  ⟨h.1, fun hn => by
    obtain ⟨b, off, e, hb, hx, hc⟩ := h.2 hn
    exact ⟨b, off, e, Nat.lt_of_lt_of_le hb m.size, fun h2 => hx (m.bad b hb h2), fun k hk => ⟨(m.cell (p := ⟨b, _, none⟩) hb hx).trans (hc k hk).1, (m.cell (p := ⟨b, _, none⟩) hb hx).trans (hc k hk).2⟩⟩⟩
theorem Efs.move {l : List Eff} (h : Efs w bad A l) (m : Moves w w' bad bad') : Efs w' bad' A l :=
  ⟨h.1, fun hn => by
    obtain ⟨b, off, e, hb, hx, hc⟩ := h.2 hn
    refine ⟨b, off, e, Nat.lt_of_lt_of_le hb m.size, fun h2 => hx (m.bad b hb h2), fun k hk => ?_⟩
    obtain ⟨S, c, h1, h2, h3, h4⟩ := hc k hk
    exact ⟨S, c, (m.cell (p := ⟨b, _, none⟩) hb hx).trans h1, h2.move m, (m.cell (p := ⟨b, _, none⟩) hb hx).trans h3, (m.cell (p := ⟨b, _, none⟩) hb hx).trans h4⟩⟩
theorem EfIs.move {xs : List Value} {l : List Eff} (h : EfIs w bad xs l) (m : Moves w w' bad bad') : EfIs w' bad' xs l :=
  ⟨h.1, fun k hk => by
    obtain ⟨S, c, h1, h2, h3, h4⟩ := h.2 k hk
    exact ⟨S, c, h1, h2.move m, h3, h4⟩⟩
theorem OpIs.move {xs : List Value} {l : List Opr} (h : OpIs w bad xs l) (m : Moves w w' bad bad') : OpIs w' bad' xs l :=
  ⟨h.1, fun k hk => by
    obtain ⟨S, c, T, d, h1, h2, h3, h4, h5, h6, h7⟩ := h.2 k hk
    exact ⟨S, c, T, d, h1, h2, h3, h4, h5.move m, h6, h7.move m⟩⟩
theorem Fac.at_ {l : List (Int × Int)} (h : Fac w bad A l) : FactsAt w w.heap.size A l :=
  ⟨h.1, fun hn => by
    obtain ⟨b, off, e, hb, hx, hc⟩ := h.2 hn
    exact ⟨b, off, e, hb, hc⟩⟩
theorem Efs.at_ {l : List Eff} (h : Efs w bad A l) : EffsAt w w.heap.size A l :=
  ⟨h.1, fun hn => by
    obtain ⟨b, off, e, hb, hx, hc⟩ := h.2 hn
    refine ⟨b, off, e, hb, fun k hk => ?_⟩
    obtain ⟨S, c, h1, h2, h3, h4⟩ := hc k hk
    exact ⟨S, c, h1, h2.at_, h3, h4⟩⟩
theorem EfIs.nil (w : World) (bad : Nat → Prop) : EfIs w bad [] [] := ⟨rfl, fun k hk => absurd hk (by simp)⟩
theorem OpIs.nil (w : World) (bad : Nat → Prop) : OpIs w bad [] [] := ⟨rfl, fun k hk => absurd hk (by simp)⟩
theorem eff_app {l m : List Eff} {k : Nat} (h : k < l.length) : eff (l ++ m) k = eff l k := by unfold eff; simp [List.getD, List.getElem?_append_left h]
theorem eff_last {l : List Eff} {e : Eff} : eff (l ++ [e]) l.length = e := by unfold eff; simp [List.getD]
theorem opr_app {l m : List Opr} {k : Nat} (h : k < l.length) : opr (l ++ m) k = opr l k := by unfold opr; simp [List.getD, List.getElem?_append_left h]
theorem opr_last {l : List Opr} {e : Opr} : opr (l ++ [e]) l.length = e := by unfold opr; simp [List.getD]
theorem get_app {xs ys : List Value} {i : Nat} {u : Value} (h : xs[i]? = some u) : (xs ++ ys)[i]? = some u := by
  rw [List.getElem?_append_left (List.getElem?_eq_some_iff.1 h).1]; exact h
theorem EfIs.push {xs : List Value} {l : List Eff} (h : EfIs w bad xs l) {S : Option Addr} {c : Nat} {e : Eff} (hf : Fac w bad S e.whn) :
    EfIs w bad (xs ++ [.slice S e.whn.length c, .int .i64 e.var, .int .i64 e.val]) (l ++ [e]) := by
  refine ⟨by rw [List.length_append, List.length_append, h.1]; simp; omega, fun k hk => ?_⟩
  rw [List.length_append] at hk
  by_cases hlt : k < l.length
  · obtain ⟨S', c', h1, h2, h3, h4⟩ := h.2 k hlt
    rw [eff_app hlt]
    exact ⟨S', c', get_app h1, h2, get_app h3, get_app h4⟩
  · have : k = l.length := by simp at hk; omega
    subst this
    rw [eff_last]
    refine ⟨S, c, ?_, hf, ?_, ?_⟩
    · rw [← h.1, List.getElem?_append_right (Nat.le_refl _), Nat.sub_self]; rfl
    · rw [← h.1, List.getElem?_append_right (by omega), Nat.add_sub_cancel_left]; rfl
    · rw [← h.1, List.getElem?_append_right (by omega), Nat.add_sub_cancel_left]; rfl
theorem OpIs.push {xs : List Value} {l : List Opr} (h : OpIs w bad xs l) {S T : Option Addr} {c d : Nat} {o : Opr} (hs : o.name.size ≤ 140737488355328) (hf : Fac w bad S o.pre) (he : Efs w bad T o.effs) :
    OpIs w bad (xs ++ [.string o.name, .int .i64 o.cost, .slice S o.pre.length c, .slice T o.effs.length d]) (l ++ [o]) := by
  refine ⟨by rw [List.length_append, List.length_append, h.1]; simp; omega, fun k hk => ?_⟩
  rw [List.length_append] at hk
  by_cases hlt : k < l.length
  · obtain ⟨S', c', T', d', h1, h2, h3, h4, h5, h6, h7⟩ := h.2 k hlt
    rw [opr_app hlt]
    exact ⟨S', c', T', d', get_app h1, h2, get_app h3, get_app h4, h5, get_app h6, h7⟩
  · have : k = l.length := by simp at hk; omega
    subst this
    rw [opr_last]
    refine ⟨S, c, T, d, ?_, hs, ?_, ?_, hf, ?_, he⟩
    · rw [← h.1, List.getElem?_append_right (Nat.le_refl _), Nat.sub_self]; rfl
    · rw [← h.1, List.getElem?_append_right (by omega), Nat.add_sub_cancel_left]; rfl
    · rw [← h.1, List.getElem?_append_right (by omega), Nat.add_sub_cancel_left]; rfl
    · rw [← h.1, List.getElem?_append_right (by omega), Nat.add_sub_cancel_left]; rfl
theorem own_cell {B s n : Nat} {e : TypeId} {g cap : Nat} {xs : List Value} (h : w.ownsRow B e s (.slice (some ⟨g, 0, none⟩) n cap) n xs) {i : Nat} {u : Value} (hi : xs[i]? = some u) : w.cell? ⟨g, i, none⟩ = some u := by
  rcases h.2 with ⟨h0, _⟩ | ⟨b, cap', cur, h1, hb, hg, hnc, hcm, hcs, htk⟩
  · cases h0
  · injection h1 with h1 _ _
    injection h1 with h1
    injection h1 with h1 _ _
    subst h1
    rw [cell_of_row w g i cur e (0, 0) hg]
    rw [← htk, List.getElem?_take] at hi
    split at hi
    · simpa using hi
    · cases hi
theorem own_view {B s n : Nat} {e : TypeId} {v : Value} {xs : List Value} (h : w.ownsRow B e s v n xs) : (v = .slice none 0 0 ∧ n = 0) ∨ ∃ g cap, v = .slice (some ⟨g, 0, none⟩) n cap ∧ B ≤ g ∧ g < w.heap.size := by
  rcases h.2 with ⟨rfl, h0⟩ | ⟨b, cap, cur, rfl, hb, hg, _⟩
  · exact .inl ⟨rfl, h0⟩
  · exact .inr ⟨b, cap, rfl, hb, (Array.getElem?_eq_some_iff.1 hg).1⟩
/-- A row of the call's own, seen as effects: also its block is at a good place. -/
theorem EfIs.efs {B : Nat} {v : Value} {xs : List Value} {l : List Eff} {e : TypeId} (h : EfIs w bad xs l) (ho : w.ownsRow B e 3 v l.length xs) (hl : l.length ≤ 140737488355328) (hb : ∀ g, B ≤ g → g < w.heap.size → ¬ bad g) :
    ∃ A c, v = .slice A l.length c ∧ (A = none → c = 0) ∧ Efs w bad A l := by
  rcases own_view ho with ⟨rfl, h0⟩ | ⟨g, cap, rfl, hg1, hg2⟩
  · exact ⟨none, 0, by rw [h0], fun _ => rfl, hl, fun hn => absurd hn (by omega)⟩
  · refine ⟨some ⟨g, 0, none⟩, cap, rfl, (fun e => nomatch e), hl, fun _ => ⟨g, 0, rfl, hg2, hb g hg1 hg2, fun k hk => ?_⟩⟩
    obtain ⟨S, c, h1, h2, h3, h4⟩ := h.2 k hk
    refine ⟨S, c, ?_, h2, ?_, ?_⟩
    · have := own_cell ho h1; simpa using this
    · have := own_cell ho h3; simpa using this
    · have := own_cell ho h4; simpa using this
theorem OpIs.ops {B : Nat} {v : Value} {xs : List Value} {l : List Opr} {e : TypeId} (h : OpIs w bad xs l) (ho : w.ownsRow B e 4 v l.length xs) (hl : l.length ≤ 140737488355328) :
    ∃ A c, v = .slice A l.length c ∧ (A = none → c = 0) ∧ OpsAt w w.heap.size A l := by
  rcases own_view ho with ⟨rfl, h0⟩ | ⟨g, cap, rfl, hg1, hg2⟩
  · exact ⟨none, 0, by rw [h0], fun _ => rfl, hl, fun hn => absurd hn (by omega)⟩
  · refine ⟨some ⟨g, 0, none⟩, cap, rfl, (fun e => nomatch e), hl, fun _ => ⟨g, 0, rfl, hg2, fun k hk => ?_⟩⟩
    obtain ⟨S, c, T, d, h1, h2, h3, h4, h5, h6, h7⟩ := h.2 k hk
    refine ⟨S, c, T, d, ?_, h2, ?_, ?_, h5.at_, ?_, h7.at_⟩
    · have := own_cell ho h1; simpa using this
    · have := own_cell ho h3; simpa using this
    · have := own_cell ho h4; simpa using this
    · have := own_cell ho h6; simpa using this
/-- A row of facts of the call's own. -/
def fcl (l : List (Int × Int)) : List Value := l.flatMap fun f => [.int .i64 f.1, .int .i64 f.2]
theorem fcl_get : ∀ (l : List (Int × Int)) (k : Nat), k < l.length → (fcl l)[k * 2]? = some (.int .i64 (fv l k)) ∧ (fcl l)[k * 2 + 1]? = some (.int .i64 (fx l k))
  | f :: l, 0, _ => ⟨rfl, rfl⟩
  | f :: l, k + 1, h => by
    obtain ⟨h1, h2⟩ := fcl_get l k (by simp at h; omega)
    have e : fcl (f :: l) = .int .i64 f.1 :: .int .i64 f.2 :: fcl l := rfl
    rw [e, show (k + 1) * 2 = k * 2 + 1 + 1 by omega]
    exact ⟨h1, h2⟩
theorem fcl_app (a b : List (Int × Int)) : fcl (a ++ b) = fcl a ++ fcl b := by unfold fcl; rw [List.flatMap_append]
theorem own_fac {B n : Nat} {v : Value} {l : List (Int × Int)} {e : TypeId} (ho : w.ownsRow B e 2 v n (fcl l)) (hn : n = l.length) (hl : l.length ≤ 140737488355328) (hb : ∀ g, B ≤ g → g < w.heap.size → ¬ bad g) :
    ∃ A c, v = .slice A l.length c ∧ (A = none → c = 0) ∧ Fac w bad A l := by
  subst hn
  rcases own_view ho with ⟨rfl, h0⟩ | ⟨g, cap, rfl, hg1, hg2⟩
  · exact ⟨none, 0, by rw [h0], fun _ => rfl, hl, fun hn => absurd hn (by omega)⟩
  · refine ⟨some ⟨g, 0, none⟩, cap, rfl, (fun e => nomatch e), hl, fun _ => ⟨g, 0, rfl, hg2, hb g hg1 hg2, fun k hk => ?_⟩⟩
    have h1 := own_cell ho (fcl_get l k hk).1
    have h2 := own_cell ho (fcl_get l k hk).2
    exact ⟨by simpa using h1, by simpa using h2⟩
end

end Go.Proofs.Ytenmeiplglbafaa
