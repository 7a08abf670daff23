/- Rows of the call's own: one element more; what other blocks keep. -/
import Derived.Test.YtebgaicapjpohaaDoorMat
import Derived.Maps.AppendAt
import Derived.Deep.AppendLies
namespace Go.Proofs.YtebgaicapjpohaaDoor
set_option linter.unusedSimpArgs false
set_option linter.unusedVariables false
open Go Go.RowKit
set_option linter.unusedVariables false

section
variable {w w1 wr : World} {B : Nat} {e : TypeId} {s : Nat} {v : Value} {n : Nat} {xs : List Value}
theorem own_below (h : wr.ownsRow B e s v n xs) (hb : Below wr.heap.size wr w1) : w1.ownsRow B e s v n xs :=
  h.kept (row := none) ⟨hb.os, hb.tape, hb.output, hb.size, fun k hk _ => hb.block k hk⟩ (by cases v.ownBlock <;> simp)
theorem own_built (w : World) (cur : Array Value) (n : Nat) (hb : B ≤ w.heap.size) (hm : n ≤ maxLen) (hs : cur.size = n * s) : (w.alloc (.cells cur e)).ownsRow B e s (.slice (some ⟨w.heap.size, 0, none⟩) n n) n cur.toList :=
  ⟨by simpa using hs, .inr ⟨w.heap.size, n, cur, rfl, hb, heap_alloc_new w _, Nat.le_refl _, hm, hs, by rw [← hs, show cur.size = cur.toList.length by simp, List.take_length]⟩⟩
theorem grown_below2 {w : World} (hb : Below B w wr) (hB : B ≤ w.heap.size) (ho : wr.ownsRow B e s v n xs) (hg : wr.grownBy w1 v.ownBlock) : Below B w w1 :=
  hb.grown hg (Nat.le_trans hB hb.size) fun k hk => (ho.lt k hk).1
theorem own_ne {w : World} (h : w.ownsRow B e s v n xs) {g : Nat} (hg : w.heap.size ≤ g) : v.ownBlock = none ∨ v.ownBlock ≠ some g := by
  cases hv : v.ownBlock with
  | none => exact .inl rfl
  | some k => refine .inr fun hh => ?_; have := (h.lt k hv).2; cases hh; omega
theorem two_one {x y : Value} (h0 : x.oneCell' = true) (h1 : y.oneCell' = true) : ∀ u ∈ [x, y], u.oneCell' = true := by intro u hu; simp at hu; rcases hu with rfl | rfl <;> assumption
theorem one_one {x : Value} (h0 : x.oneCell' = true) : ∀ u ∈ [x], u.oneCell' = true := by intro u hu; simp at hu; subst hu; assumption
theorem three_one {x y z : Value} (h0 : x.oneCell' = true) (h1 : y.oneCell' = true) (h2 : z.oneCell' = true) : ∀ u ∈ [x, y, z], u.oneCell' = true := by intro u hu; simp at hu; rcases hu with rfl | rfl | rfl <;> assumption
/-- Blocks of different element types are different. -/
theorem row_own_ne {w : World} {b : Nat} {t : TypeId} {m : Nat} {f : Nat → Value} (hr : w.rowIs b t m f) (h : w.ownsRow B e s v n xs) (hne : t ≠ e) : some b ≠ v.ownBlock := by
  obtain ⟨c, hb, _⟩ := hr
  rcases h.2 with ⟨rfl, _⟩ | ⟨g, cap, cur, rfl, _, hg, _⟩
  · simp [Value.ownBlock]
  · intro he
    have : g = b := by simpa [Value.ownBlock] using he.symm
    subst this
    rw [hb] at hg
    injection hg with hg
    injection hg with _ ht
    exact hne ht
end

section
variable {P : Program} {w : World}
/-- The cells of a block that is known whole. -/
theorem cells_of_block {H : Nat} {news : List Value} {T : TypeId} (h : w.heap[H]? = some (.cells news.toArray T (0, 0))) : ∀ j u, news[j]? = some u → w.cell? ((⟨H, 0, none⟩ : Addr).add j) = some u := by
  intro j u hu
  have h1 := cell_of_row w H j news.toArray T (0, 0) h
  rw [show news.toArray[j]? = news[j]? by simp, hu] at h1
  simp only [Addr.add]
  split
  · rename_i h0; subst h0; exact h1
  · rw [Nat.zero_add]; exact h1
/-- append of one element, laid into a block of its own, to a row of the call's own. -/
theorem wpList_push {ops : Array Oper} {rest : List Oper} {o : Oper} {a : Act} {Q : Exit → Act → World → Prop} (hgd : o.guard = .none) (s x : Operand) (t : TypeId)
    (ho : o.op = .call { callee := .builtin .append, args := #[s, x], argTypes := #[t, t] })
    (base : Nat) (e : TypeId) (i : TypeInfo) (z : Value) (size bytes : Nat) (ht : P.underlying t = some (.slice e)) (hi : P.info? e = some i) (hz : i.zero = some z)
    (hsize : i.size = size) (hby : i.bytes = bytes) (hzs : z.cells.size = size) (hsz : 0 < size) (hbs : bytes ≤ 1000)
    (v : Value) (n : Nat) (xs : List Value) (hs : a.eval s = v) (hown : w.ownsRow base e size v n xs)
    (H : Nat) (T : TypeId) (news : List Value) (hx : a.eval x = .slice (some ⟨H, 0, none⟩) 1 1) (hl : news.length = size) (hH : w.heap[H]? = some (.cells news.toArray T (0, 0))) (h1 : ∀ u ∈ news, u.oneCell' = true)
    (hn : n ≤ 10000000) (hbase : base ≤ w.heap.size) {W : World} {B : Nat} (hB : Below B W w) (hBb : B ≤ base)
    (h : ∀ v' w', w'.ownsRow base e size v' (n + 1) (xs ++ news) → w.grownBy w' v.ownBlock → (v'.ownBlock = v.ownBlock ∨ v'.ownBlock = some w.heap.size) → Below B W w' → wpList P ops Q rest (a.put o.dst v') w') :
    wpList P ops Q (o :: rest) a w := by
  have hn1 : (n + 1) * bytes ≤ 140737488355328 := Nat.le_trans (Nat.mul_le_mul (show n + 1 ≤ 10000001 by omega) hbs) (by decide)
  refine wpList_append_own_at w hgd s x t ho base e i z size bytes ht hi hz hsize hby hzs hsz v n xs hs hown ⟨H, 0, none⟩ 1 1 news hx (by rw [hl, Nat.one_mul]) (cells_of_block hH) h1 (by unfold maxLen; omega) hn1 hbase ?_
  intro v' w' h2 h3 _ h5
  exact h v' w' h2 h3 h5 (hB.grown h3 (by omega) fun k hk => Nat.le_trans hBb ((hown.lt k hk).1))
end

/-- A slice of fractions as a result. -/
def GotFs (w : World) (v : Value) (l : List (Int × Int)) : Prop := ∃ A c, v = .slice A l.length c ∧ (A = none → c = 0) ∧ FactsAt w w.heap.size A l
theorem gotFs_nil (w : World) : GotFs w (.slice none 0 0) [] := ⟨none, 0, rfl, fun _ => rfl, by simp, fun h => absurd h (by simp)⟩
def RetFs (l : List (Int × Int)) (cv : Value) (w : World) (e : Ending) (w' : World) : Prop := (∃ v, e = .returned (.tuple #[v, cv]) ∧ GotFs w' v l) ∧ Below w.heap.size w w'

end Go.Proofs.YtebgaicapjpohaaDoor
