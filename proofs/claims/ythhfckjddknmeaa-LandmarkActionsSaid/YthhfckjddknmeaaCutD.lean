/- Cuts in memory (texts of a seat with tasks). -/
import Derived.Test.YthhfckjddknmeaaMgA
namespace Go.Proofs.Ythhfckjddknmeaa
set_option linter.unusedSimpArgs false
set_option linter.unusedVariables false
open Go.RowKit
set_option linter.unusedVariables false

structure Cut where
  ops : List Int
  cost : Int
def Cut.none : Cut := ⟨[], 0⟩
def cut (l : List Cut) (k : Nat) : Cut := l.getD k Cut.none
theorem cut_mem {l : List Cut} {k : Nat} (h : k < l.length) : cut l k ∈ l := by unfold cut; simp [List.getD, List.getElem?_eq_getElem h]
theorem mem_cut {l : List Cut} {e : Cut} (h : e ∈ l) : ∃ k, k < l.length ∧ e = cut l k := by
  obtain ⟨k, hk, rfl⟩ := List.mem_iff_getElem.1 h
  exact ⟨k, hk, by unfold cut; simp [List.getD, List.getElem?_eq_getElem hk]⟩
theorem cut_left {a b : List Cut} {k : Nat} (h : k < a.length) : cut (a ++ b) k = cut a k := by unfold cut; simp [List.getD, List.getElem?_append_left h]
theorem cut_last {a : List Cut} {u : Cut} : cut (a ++ [u]) a.length = u := by unfold cut; simp [List.getD]

/-- Cuts: two cells each. -/
def CutsAt (w : World) (B : Nat) (A : Option Addr) (l : List Cut) : Prop :=
  l.length ≤ 140737488355328 ∧ (0 < l.length → ∃ b off, A = some ⟨b, off, none⟩ ∧ b < B ∧ ∀ k, k < l.length → ∃ S c,
    w.cell? ⟨b, off + k * 2, none⟩ = some (.slice S (cut l k).ops.length c) ∧ IntsAt w B S (cut l k).ops ∧
    w.cell? ⟨b, off + k * 2 + 1, none⟩ = some (.int .i64 (cut l k).cost))
section
variable {w w' : World} {B B' : Nat} {A : Option Addr}
theorem CutsAt.len {l : List Cut} (h : CutsAt w B A l) : l.length ≤ 140737488355328 := h.1
theorem CutsAt.keep {l : List Cut} (h : CutsAt w B A l) (hk : ∀ p : Addr, p.block < B → w'.cell? p = w.cell? p) (hB : B ≤ B') : CutsAt w' B' A l :=
  ⟨h.1, fun hn => by
    obtain ⟨b, off, e, hb, hc⟩ := h.2 hn
    refine ⟨b, off, e, by omega, fun k hlt => ?_⟩
    obtain ⟨S, c, h1, h2, h3⟩ := hc k hlt
    exact ⟨S, c, (hk _ hb).trans h1, h2.keep hk hB, (hk _ hb).trans h3⟩⟩
theorem CutsAt.up {l : List Cut} (h : CutsAt w w.heap.size A l) (hb : Below w.heap.size w w') : CutsAt w' w'.heap.size A l := h.keep (fun _ hp => hb.cell hp) hb.size
theorem CutsAt.at2 {l : List Cut} (h : CutsAt w B A l) (hb : Below B w w') {k : Nat} (hk : k < l.length) : ∃ b off S c, A = some ⟨b, off, none⟩ ∧ b < B ∧
    w'.cell? ⟨b, off + k * 2, none⟩ = some (.slice S (cut l k).ops.length c) ∧ IntsAt w B S (cut l k).ops ∧
    w'.cell? ⟨b, off + k * 2 + 1, none⟩ = some (.int .i64 (cut l k).cost) := by
  obtain ⟨b, off, e, hlt, hc⟩ := h.2 (by omega)
  obtain ⟨S, c, h1, h2, h3⟩ := hc k hk
  exact ⟨b, off, S, c, e, hlt, (hb.cell hlt).trans h1, h2, (hb.cell hlt).trans h3⟩
end

theorem infoCu : (Try.prog.info? 62).map (fun i => (i.zero, i.size, i.bytes)) = some (some (.agg #[.slice none 0 0, .int .i64 0]), 2, 32) := by kernel_rfl
theorem undCu : Try.prog.underlying 56 = some (.slice 62) := by kernel_rfl

/-- Numbers that lie in another block than r. -/
def IntsNe (w : World) (r : Option Nat) (A : Option Addr) (l : List Int) : Prop := IntsAt w w.heap.size A l ∧ ∀ a, A = some a → 0 < l.length → some a.block ≠ r
theorem IntsNe.at2 {w : World} {r : Option Nat} {A : Option Addr} {l : List Int} (h : IntsNe w r A l) : IntsAt w w.heap.size A l := h.1
theorem IntsNe.up {w w' : World} {r : Option Nat} {A : Option Addr} {l : List Int} (h : IntsNe w r A l) (hb : Below w.heap.size w w') : IntsNe w' r A l := ⟨h.1.up hb, h.2⟩
theorem IntsNe.grown {w w' : World} {r r' : Option Nat} {A : Option Addr} {l : List Int} (h : IntsNe w r A l) (hg : w.grownBy w' r) (hat : r' = r ∨ r' = some w.heap.size) : IntsNe w' r' A l := by
  refine ⟨⟨h.1.1, fun h0 => ?_⟩, fun a e h0 => ?_⟩
  · obtain ⟨b, off, e, hb, hc⟩ := h.1.2 h0
    have hne := h.2 _ e h0
    refine ⟨b, off, e, Nat.lt_of_lt_of_le hb hg.size, fun k hk => ?_⟩
    exact (World.cell?_of_block (a := ⟨b, off + k, none⟩) (hg.block b hb hne)).trans (hc k hk)
  · rcases hat with h1 | h1
    · rw [h1]; exact h.2 a e h0
    · rw [h1]
      obtain ⟨b, off, e2, hb, _⟩ := h.1.2 h0
      rw [e] at e2
      cases e2
      intro e3
      cases e3
      exact Nat.lt_irrefl _ hb
/-- Cuts in a row of the call's own. -/
def CuRow (w : World) (base : Nat) (v : Value) (l : List Cut) : Prop := ∃ xs, w.ownsRow base 62 2 v l.length xs ∧ ∀ k, k < l.length → ∃ S c, xs[k * 2]? = some (.slice S (cut l k).ops.length c) ∧ IntsNe w v.ownBlock S (cut l k).ops ∧ xs[k * 2 + 1]? = some (.int .i64 (cut l k).cost)
theorem CuRow.nil (w : World) (base : Nat) : CuRow w base (.slice none 0 0) [] := ⟨[], World.ownsRow_nil _ _ _ _, fun k hk => absurd hk (by simp)⟩
theorem CuRow.up {w w' : World} {base : Nat} {v : Value} {l : List Cut} (h : CuRow w base v l) (hb : Below w.heap.size w w') : CuRow w' base v l := by
  obtain ⟨xs, ho, hx⟩ := h
  refine ⟨xs, own_below ho hb, fun k hk => ?_⟩
  obtain ⟨S, c, h1, h2, h3⟩ := hx k hk
  exact ⟨S, c, h1, h2.up hb, h3⟩
theorem CuRow.push {w w' : World} {base : Nat} {v v' : Value} {l : List Cut} {xs : List Value} (ho : w.ownsRow base 62 2 v l.length xs) (hx : ∀ k, k < l.length → ∃ S c, xs[k * 2]? = some (.slice S (cut l k).ops.length c) ∧ IntsNe w v.ownBlock S (cut l k).ops ∧ xs[k * 2 + 1]? = some (.int .i64 (cut l k).cost))
    {S : Option Addr} {c : Nat} {u : Cut} (hI : IntsNe w v.ownBlock S u.ops) (hg : w.grownBy w' v.ownBlock) (hat : v'.ownBlock = v.ownBlock ∨ v'.ownBlock = some w.heap.size)
    (ho' : w'.ownsRow base 62 2 v' (l.length + 1) (xs ++ [.slice S u.ops.length c, .int .i64 u.cost])) : CuRow w' base v' (l ++ [u]) := by
  have hl : xs.length = l.length * 2 := ho.1
  refine ⟨xs ++ [.slice S u.ops.length c, .int .i64 u.cost], by rw [List.length_append]; exact ho', fun k hk => ?_⟩
  rw [List.length_append, List.length_singleton] at hk
  by_cases e : k < l.length
  · obtain ⟨S', c', h1, h2, h3⟩ := hx k e
    rw [cut_left e]
    exact ⟨S', c', by rw [List.getElem?_append_left (by omega)]; exact h1, h2.grown hg hat, by rw [List.getElem?_append_left (by omega)]; exact h3⟩
  · obtain rfl : k = l.length := by omega
    rw [cut_last]
    exact ⟨S, c, by rw [← hl]; simp, hI.grown hg hat, by rw [← hl]; simp⟩
def GotCs (w : World) (v : Value) (l : List Cut) : Prop := ∃ A c, v = .slice A l.length c ∧ (A = none → c = 0) ∧ CutsAt w w.heap.size A l
theorem gotCs_nil (w : World) : GotCs w (.slice none 0 0) [] := ⟨none, 0, rfl, fun _ => rfl, by simp, fun h => absurd h (by simp)⟩
theorem CuRow.got {w : World} {base : Nat} {v : Value} {l : List Cut} (h : CuRow w base v l) (hl : l.length ≤ 1000000) : GotCs w v l := by
  obtain ⟨xs, ho, hx⟩ := h
  rcases ho.2 with ⟨rfl, h0⟩ | ⟨g, cap, cur, rfl, hb, hg, hnc, hcm, hcs, htk⟩
  · exact ⟨none, 0, by rw [h0], fun _ => rfl, by omega, fun hp => absurd hp (by omega)⟩
  · refine ⟨_, cap, rfl, (fun e => by cases e), by omega, fun _ => ⟨g, 0, rfl, (Array.getElem?_eq_some_iff.1 hg).1, fun k hk => ?_⟩⟩
    obtain ⟨S, c, h1, h2, h3⟩ := hx k hk
    have hc : ∀ (i : Nat) (u : Value), i < l.length * 2 → xs[i]? = some u → w.cell? ⟨g, i, none⟩ = some u := fun i u hi h => by
      rw [← htk, List.getElem?_take, if_pos hi] at h
      have := cell_of_row w g i cur 62 (0, 0) hg
      rw [show cur[i]? = some u by simpa using h] at this
      simpa using this
    exact ⟨S, c, by rw [Nat.zero_add]; exact hc _ _ (by omega) h1, h2.1, by rw [Nat.zero_add]; exact hc _ _ (by omega) h3⟩
/-- The head of a row: where it lies. -/
theorem CuRow.shape {w : World} {base : Nat} {v : Value} {l : List Cut} (h : CuRow w base v l) : ∃ A c, v = .slice A l.length c := by
  obtain ⟨xs, ho, _⟩ := h
  rcases ho.2 with ⟨rfl, h0⟩ | ⟨g, cap, cur, rfl, _⟩
  · exact ⟨none, 0, by rw [h0]⟩
  · exact ⟨_, _, rfl⟩

end Go.Proofs.Ythhfckjddknmeaa
