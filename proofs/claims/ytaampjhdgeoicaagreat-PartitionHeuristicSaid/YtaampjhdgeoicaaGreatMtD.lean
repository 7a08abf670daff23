/- Texts laid together: Kb, AppN, StaP, RankB, StaW, EdgW, DisP. -/
import Derived.Test.YtaampjhdgeoicaaGreatMtA
import Derived.Test.YtaampjhdgeoicaaGreatMfC
import Derived.Test.YtaampjhdgeoicaaGreatMfA
import Derived.Test.YtaampjhdgeoicaaGreatMtB
import Derived.Maps.AppendAt
import Derived.Laws.AppendOwnNone
import Derived.Deep.RegionHeld3
import Derived.Deep.AppendLies
import Derived.Laws.OwnMore
import Derived.Test.YtaampjhdgeoicaaGreatMtC
import Derived.Test.YtaampjhdgeoicaaGreatTaskA
import Derived.Test.YtaampjhdgeoicaaGreatGood
namespace Go.Proofs.YtaampjhdgeoicaaGreat
set_option linter.unusedSimpArgs false
set_option linter.unusedVariables false
section
open Go Go.RowKit
set_option linter.unusedVariables false

structure Kb (bad : Nat → Prop) (w w' : World) : Prop where
 os : w'.os = w.os
 tape : w'.tape = w.tape
 output : w'.output = w.output
 size : w.heap.size ≤ w'.heap.size
 block : ∀ k, k < w.heap.size → ¬ bad k → w'.heap[k]? = w.heap[k]?
section
variable {bad : Nat → Prop} {w w' w'' : World}
end

/-- A box of four cells. -/
structure Box4 (w : World) (b : Nat) (v0 v1 v2 v3 : Value) : Prop where
 lt : b < w.heap.size
 c0 : w.cell? ⟨b, 0, none⟩ = some v0
 c1 : w.cell? ⟨b, 1, none⟩ = some v1
 c2 : w.cell? ⟨b, 2, none⟩ = some v2
 c3 : w.cell? ⟨b, 3, none⟩ = some v3
 fz : ∀ k, w.frozen? ⟨b, k, none⟩ = false
section
variable {bad : Nat → Prop} {w w' : World} {b : Nat} {v0 v1 v2 v3 : Value}
theorem Box4.of_block (h : Box4 w b v0 v1 v2 v3) (hs : w.heap.size ≤ w'.heap.size) (hb : w'.heap[b]? = w.heap[b]?) : Box4 w' b v0 v1 v2 v3 :=
 have e : ∀ k, w'.cell? ⟨b, k, none⟩ = w.cell? ⟨b, k, none⟩ := fun k => World.cell?_of_block (w := w) (a := ⟨b, k, none⟩) hb
 ⟨Nat.lt_of_lt_of_le h.lt hs, (e 0).trans h.c0, (e 1).trans h.c1, (e 2).trans h.c2, (e 3).trans h.c3, fun k => (World.frozen?_of_block (w := w) (a := ⟨b, k, none⟩) hb).trans (h.fz k)⟩
theorem Box4.up (h : Box4 w b v0 v1 v2 v3) (k : Below w.heap.size w w') : Box4 w' b v0 v1 v2 v3 := h.of_block k.size (k.block b h.lt)
theorem Box4.alloc (h : Box4 w b v0 v1 v2 v3) (o : Obj) : Box4 (w.alloc o) b v0 v1 v2 v3 := h.up ((Below.refl _ _).alloc (Nat.le_refl _) _)
theorem Box4.drew (h : Box4 w b v0 v1 v2 v3) : Box4 w.drew b v0 v1 v2 v3 := h.up (Below.refl _ _).drew
theorem Box4.new (w : World) (T : TypeId) (v0 v1 v2 v3 : Value) : Box4 (w.alloc (.cells #[v0, v1, v2, v3] T)) w.heap.size v0 v1 v2 v3 :=
 ⟨by simp, by simp, by simp, by simp, by simp, fun k => by simp⟩
theorem Box4.far (h : Box4 w b v0 v1 v2 v3) {p : Addr} (u : Value) (hp : b ≠ p.block) : Box4 (w.setCell p u) b v0 v1 v2 v3 := h.of_block (by simp [World.setCell]) (Below.heap_setCell _ _ _ _ hp)
theorem set_oth (w : World) (b i j : Nat) (u : Value) (h : i ≠ j) : (w.setCell ⟨b, i, none⟩ u).cell? ⟨b, j, none⟩ = w.cell? ⟨b, j, none⟩ := World.cell?_setCell_other _ _ _ _ (by simp [h])
theorem set_frz (w : World) (b i k : Nat) (u : Value) : (w.setCell ⟨b, i, none⟩ u).frozen? ⟨b, k, none⟩ = w.frozen? ⟨b, k, none⟩ := by simp
theorem Box4.set2 (h : Box4 w b v0 v1 v2 v3) (u : Value) : Box4 (w.setCell ⟨b, 2, none⟩ u) b v0 v1 u v3 :=
 ⟨by simpa [World.setCell] using h.lt, (set_oth _ _ _ _ _ (by decide)).trans h.c0, (set_oth _ _ _ _ _ (by decide)).trans h.c1, World.cell?_setCell_same' _ _ _ (by rw [h.c2]; rfl), (set_oth _ _ _ _ _ (by decide)).trans h.c3, fun k => (set_frz _ _ _ _ _).trans (h.fz k)⟩
theorem Box4.set3 (h : Box4 w b v0 v1 v2 v3) (u : Value) : Box4 (w.setCell ⟨b, 3, none⟩ u) b v0 v1 v2 u :=
 ⟨by simpa [World.setCell] using h.lt, (set_oth _ _ _ _ _ (by decide)).trans h.c0, (set_oth _ _ _ _ _ (by decide)).trans h.c1, (set_oth _ _ _ _ _ (by decide)).trans h.c2, World.cell?_setCell_same' _ _ _ (by rw [h.c3]; rfl), fun k => (set_frz _ _ _ _ _).trans (h.fz k)⟩
end

/-- Different blocks of growing rows. -/
def Apt (a b : Value) : Prop := a.ownBlock = none ∨ a.ownBlock ≠ b.ownBlock
section
variable {W w w' : World} {base : Nat} {L V I L' V' I' : Value} {ls vs is : List Int} {x : Int}
theorem ic_push (l : List Int) (x : Int) : ic l ++ [.int .i64 x] = ic (l ++ [x]) := by unfold ic; rw [List.map_append]; rfl
theorem own_set' {W : World} {B s n : Nat} {e : TypeId} {v u : Value} {xs : List Value} {p : Addr} (h : W.ownsRow B e s v n xs) (hp : v.ownBlock ≠ some p.block) : (W.setCell p u).ownsRow B e s v n xs := by
 rcases h.2 with ⟨rfl, h0⟩ | ⟨g, cap, cur, rfl, hb, hg, hh⟩
 ·exact ⟨h.1, .inl ⟨rfl, h0⟩⟩
 ·exact ⟨h.1, .inr ⟨g, cap, cur, rfl, hb, (Below.heap_setCell _ _ _ _ (fun e => hp (by rw [← e]; rfl))).trans hg, hh⟩⟩
theorem own_base {W : World} {B B' s n : Nat} {e : TypeId} {v : Value} {xs : List Value} (h : W.ownsRow B e s v n xs) (hb : B' ≤ B) : W.ownsRow B' e s v n xs :=
 ⟨h.1, h.2.imp id fun ⟨g, cap, cur, h1, h2, h3⟩ => ⟨g, cap, cur, h1, Nat.le_trans hb h2, h3⟩⟩
theorem own_low {W : World} {B s n : Nat} {e : TypeId} {v : Value} {xs : List Value} (h : W.ownsRow B e s v n xs) {g : Nat} (hg : W.heap.size ≤ g ∨ g < B) : v.ownBlock ≠ some g := fun hv => by
 have := h.lt g hv; omega
theorem src_of {W : World} {H size : Nat} {T : TypeId} {vals : List Value} (hH : W.heap[H]? = some (.cells vals.toArray T (0, 0))) (hl : vals.length = size) (h1 : ∀ u ∈ vals, u.oneCell' = true) : SrcAt W (some ⟨H, 0, none⟩) 1 1 size vals where
 none := fun e => nomatch e
 len := by omega
 cells := fun ad e => by cases e; exact cells_of_block hH
 one := h1
theorem four_one {x y z u : Value} (h0 : x.oneCell' = true) (h1 : y.oneCell' = true) (h2 : z.oneCell' = true) (h3 : u.oneCell' = true) : ∀ v ∈ [x, y, z, u], v.oneCell' = true := by intro v hv; simp at hv; rcases hv with rfl | rfl | rfl | rfl <;> assumption
theorem Boxed.low {w w' : World} {b B : Nat} {t : Tsk} {p : Lies} (h : Boxed w b t p) (k : Below B w w') (hb : b < B) : Boxed w' b t p :=
 ⟨Nat.lt_of_lt_of_le h.lt k.size, (k.cell (p := ⟨b, 0, none⟩) hb).trans h.c0, (k.cell (p := ⟨b, 1, none⟩) hb).trans h.c1, (k.cell (p := ⟨b, 2, none⟩) hb).trans h.c2, (k.cell (p := ⟨b, 3, none⟩) hb).trans h.c3⟩
end
end

section
open Go.RowKit

/-- A slice whose cells hold the values news (size cells an element). -/
structure SrcNt (w : World) (A : Option Addr) (m c size : Nat) (news : List Value) : Prop where
 none : A = none → m = 0
 len : news.length = m * size
 cells : ∀ ad, A = some ad → ∀ j u, news[j]? = some u → w.cell? (ad.add j) = some u
 one : ∀ u ∈ news, u.oneCell' = true

section
variable {P : Program} {w : World}
theorem run_append_none (base : Nat) (t ty e : TypeId) (i : TypeInfo) (size : Nat) (ht : P.underlying t = some (.slice e)) (hi : P.info? e = some i)
  (v : Value) (n : Nat) (xs : List Value) (hown : w.ownsRow base e size v n xs) (c : Nat) :
  (Builtin.append_ #[t, t] ty #[v, .slice none 0 c]).run P w = .ok v w := by
 rcases hown.2 with ⟨rfl, rfl⟩ | ⟨g, cap, cur, rfl, _, _, hnc, _⟩
 ·simp [Builtin.append_, run_underlying ht, sizeOf, typeInfo, hi, Builtin.lenOf, Builtin.firstCells]
 ·simp [Builtin.append_, run_underlying ht, sizeOf, typeInfo, hi, Builtin.lenOf, Builtin.firstCells, hnc, storeCells]
theorem grown_refl' (row : Option Nat) : w.grownBy w row := ⟨rfl, rfl, rfl, Nat.le_refl _, fun _ _ _ => rfl⟩

theorem wp_append_srn {o : Oper} {a : Act} {K : Act → World → Prop} {Q : Exit → Act → World → Prop} (s x : Operand) (t : TypeId)
  (ho : o.op = .call { callee := .builtin .append, args := #[s, x], argTypes := #[t, t] })
  (base : Nat) (e : TypeId) (i : TypeInfo) (z : Value) (size bytes : Nat) (ht : P.underlying t = some (.slice e)) (hi : P.info? e = some i) (hz : i.zero = some z)
  (hsize : i.size = size) (hby : i.bytes = bytes) (hzs : z.cells.size = size) (hsz : 0 < size)
  (v : Value) (n : Nat) (xs : List Value) (hs : a.eval s = v) (hown : w.ownsRow base e size v n xs)
  (A : Option Addr) (m c : Nat) (news : List Value) (hx : a.eval x = .slice A m c) (hsrc : SrcNt w A m c size news)
  (h63 : n + m ≤ maxLen) (hbytes : (n + m) * bytes ≤ 140737488355328) (hbase : base ≤ w.heap.size)
  (h : ∀ v' w', w'.ownsRow base e size v' (n + m) (xs ++ news) → w.grownBy w' v.ownBlock → (v'.ownBlock = v.ownBlock ∨ v'.ownBlock = some w.heap.size) → K (a.put o.dst v') w') : o.wp P a w K Q := by
 cases A with
 | none =>
  obtain rfl := hsrc.none rfl
  have hn : news = [] := List.length_eq_zero_iff.1 (by rw [hsrc.len]; simp)
  subst hn
  have hr := run_append_none (P := P) (w := w) base t o.type e i size ht hi v n xs hown c
  unfold Oper.wp execOp
  simp only [ho, resolve, invoke, builtin, Sem.run_bind, Sem.run_pure, Result.andThen_ok, List.map_toArray, List.map_cons, List.map_nil, hs, hx, hr]
  exact h v w (by simpa using hown) (grown_refl' _) (.inl rfl)
 | some ad =>
  obtain ⟨v', w', hr, h2, h3, _, h5⟩ := run_append_own_at (P := P) w base t o.type e i z size bytes ht hi hz hsize hby hzs hsz v n xs hown ad m c news hsrc.len (hsrc.cells ad rfl) hsrc.one h63 hbytes hbase
  unfold Oper.wp execOp
  simp only [ho, resolve, invoke, builtin, Sem.run_bind, Sem.run_pure, Result.andThen_ok, List.map_toArray, List.map_cons, List.map_nil, hs, hx, hr]
  exact h v' w' h2 h3 h5

theorem wpList_append_srn {ops : Array Oper} {rest : List Oper} {o : Oper} {a : Act} {Q : Exit → Act → World → Prop} (hgd : o.guard = .none) (s x : Operand) (t : TypeId)
  (ho : o.op = .call { callee := .builtin .append, args := #[s, x], argTypes := #[t, t] })
  (base : Nat) (e : TypeId) (i : TypeInfo) (z : Value) (size bytes : Nat) (ht : P.underlying t = some (.slice e)) (hi : P.info? e = some i) (hz : i.zero = some z)
  (hsize : i.size = size) (hby : i.bytes = bytes) (hzs : z.cells.size = size) (hsz : 0 < size)
  (v : Value) (n : Nat) (xs : List Value) (hs : a.eval s = v) (hown : w.ownsRow base e size v n xs)
  (A : Option Addr) (m c : Nat) (news : List Value) (hx : a.eval x = .slice A m c) (hsrc : SrcNt w A m c size news)
  (h63 : n + m ≤ maxLen) (hbytes : (n + m) * bytes ≤ 140737488355328) (hbase : base ≤ w.heap.size)
  (h : ∀ v' w', w'.ownsRow base e size v' (n + m) (xs ++ news) → w.grownBy w' v.ownBlock → (v'.ownBlock = v.ownBlock ∨ v'.ownBlock = some w.heap.size) → wpList P ops Q rest (a.put o.dst v') w') :
  wpList P ops Q (o :: rest) a w :=
 wpList_plain hgd fun _ hK => wp_append_srn s x t ho base e i z size bytes ht hi hz hsize hby hzs hsz v n xs hs hown A m c news hx hsrc h63 hbytes hbase fun v' w' h2 h3 h4 => hK _ _ (h v' w' h2 h3 h4)

theorem step_append_srn {ops : Array Oper} {o : Oper} {a : Act} {K : Act → World → Prop} {Q : Exit → Act → World → Prop} {E : Prop} (hgd : o.guard = .none) (s x : Operand) (t : TypeId)
  (ho : o.op = .call { callee := .builtin .append, args := #[s, x], argTypes := #[t, t] })
  (base : Nat) (e : TypeId) (i : TypeInfo) (z : Value) (size bytes : Nat) (ht : P.underlying t = some (.slice e)) (hi : P.info? e = some i) (hz : i.zero = some z)
  (hsize : i.size = size) (hby : i.bytes = bytes) (hzs : z.cells.size = size) (hsz : 0 < size)
  (v : Value) (n : Nat) (xs : List Value) (hs : a.eval s = v) (hown : w.ownsRow base e size v n xs)
  (A : Option Addr) (m c : Nat) (news : List Value) (hx : a.eval x = .slice A m c) (hsrc : SrcNt w A m c size news)
  (h63 : n + m ≤ maxLen) (hbytes : (n + m) * bytes ≤ 140737488355328) (hbase : base ≤ w.heap.size)
  (h : ∀ v' w', w'.ownsRow base e size v' (n + m) (xs ++ news) → w.grownBy w' v.ownBlock → (v'.ownBlock = v.ownBlock ∨ v'.ownBlock = some w.heap.size) → K (a.put o.dst v') w') :
  if Region.wanted o (yielded ops a.tmps) = true then Oper.wp P o a w K Q else E := by
 have hw : Region.wanted o (yielded ops a.tmps) = true := by simp [Region.wanted, hgd]
 rw [if_pos hw]
 exact wp_append_srn s x t ho base e i z size bytes ht hi hz hsize hby hzs hsz v n xs hs hown A m c news hx hsrc h63 hbytes hbase h
end

theorem fcl_len (l : List (Int × Int)) : (fcl l).length = l.length * 2 := by
 induction l with
 | nil => rfl
 | cons f l ih => show (_ :: _ :: fcl l).length = _; simp only [List.length_cons, ih]; omega
theorem fcl_at {l : List (Int × Int)} {j : Nat} {u : Value} (h : (fcl l)[j]? = some u) : ∃ k, k < l.length ∧ ((j = k * 2 ∧ u = .int .i64 (fv l k)) ∨ (j = k * 2 + 1 ∧ u = .int .i64 (fx l k))) := by
 have hj : j < (fcl l).length := (List.getElem?_eq_some_iff.1 h).1
 rw [fcl_len] at hj
 refine ⟨j / 2, by omega, ?_⟩
 obtain ⟨h1, h2⟩ := fcl_get l (j / 2) (by omega)
 rcases Nat.mod_two_eq_zero_or_one j with e | e
 ·have e2 : j = j / 2 * 2 := by omega
  rw [← e2] at h1; rw [h1] at h; cases h; exact .inl ⟨e2, rfl⟩
 ·have e2 : j = j / 2 * 2 + 1 := by omega
  rw [← e2] at h2; rw [h2] at h; cases h; exact .inr ⟨e2, rfl⟩
/-- Facts as a source. -/
theorem facts_srn {w : World} {B : Nat} {A : Option Addr} {l : List (Int × Int)} {c : Nat} (h : FactsAt w B A l) : SrcNt w A l.length c 2 (fcl l) where
 none := fun e => by
  rcases Nat.eq_zero_or_pos l.length with h0 | h0
  ·exact h0
  ·obtain ⟨b, off, e2, _⟩ := h.2 h0; rw [e] at e2; cases e2
 len := fcl_len l
 cells := fun ad e j u hj => by
  obtain ⟨k, hk, hu⟩ := fcl_at hj
  obtain ⟨b, off, e2, _, hc⟩ := h.2 (by omega)
  rw [e] at e2
  cases e2
  rcases hu with ⟨rfl, rfl⟩ | ⟨rfl, rfl⟩
  ·have h1 := (hc k hk).1
   simp [Addr.add]
   split
   ·rename_i h0; have : k = 0 := by omega
    subst this; simpa using h1
   ·simpa using h1
  ·have h1 := (hc k hk).2
   simpa [Addr.add, Nat.add_assoc] using h1
 one := fun u hu => by
  obtain ⟨j, hj, e⟩ := List.mem_iff_getElem.1 hu
  obtain ⟨k, hk, hh⟩ := fcl_at (l := l) (j := j) (u := u) (by rw [List.getElem?_eq_getElem hj, e])
  rcases hh with ⟨_, rfl⟩ | ⟨_, rfl⟩ <;> rfl
theorem src_ofN {W : World} {H size : Nat} {T : TypeId} {vals : List Value} (hH : W.heap[H]? = some (.cells vals.toArray T (0, 0))) (hl : vals.length = size) (h1 : ∀ u ∈ vals, u.oneCell' = true) : SrcNt W (some ⟨H, 0, none⟩) 1 1 size vals where
 none := fun e => nomatch e
 len := by omega
 cells := fun ad e => by
  cases e
  intro j u hj
  have h2 := cell_of_row W H j vals.toArray T (0, 0) hH
  rw [show vals.toArray[j]? = some u by simpa using hj] at h2
  simp only [Addr.add]
  split
  ·rename_i h0; subst h0; exact h2
  ·rw [Nat.zero_add]; exact h2
 one := h1
end

section
open Go.RowKit
set_option linter.unusedVariables false

/-- Row k of a list of rows. -/
def row (L : List (List Int)) (k : Nat) : List Int := L.getD k []
/-- The first j of the rows that L's rows make with m values more. -/
def nxL (L : List (List Int)) (m j : Nat) : List (List Int) := (List.range j).map fun j => row L (j / m) ++ [((j % m : Nat) : Int)]
/-- The states of the first k variables. -/
def stN (vars : List Int) : Nat → List (List Int)
 | 0 => [[]]
 | k + 1 => nxL (stN vars k) (nth vars k).toNat ((stN vars k).length * (nth vars k).toNat)
def sts (vars : List Int) : List (List Int) := stN vars vars.length
section
variable {vars : List Int}
end
section
variable {t : Tsk}
/-- The number of a state. -/
def num (t : Tsk) (s : List Int) : Nat := (rk t.vars s t.vars.length).toNat
/-- The edges: by state, by operator. -/
def egO (t : Tsk) (s : List Int) (i j : Nat) : List (Nat × Nat × Nat) := (List.range j).filterMap fun op => if hoB (opr t.ops op).pre s then some (i, op, num t (nxt t s op)) else none
def egN (t : Tsk) (i : Nat) : List (Nat × Nat × Nat) := (List.range i).flatMap fun i => egO t (row (sts t.vars) i) i t.ops.length
def edges (t : Tsk) : List (Nat × Nat × Nat) := egN t (sts t.vars).length
end
end

section
open Go.RowKit
set_option linter.unusedVariables false

end

section
open Go Go.RowKit
set_option linter.unusedVariables false

section
variable {w w' : World} {base : Nat} {v v' : Value} {L : List (List Int)} {xs : List Value}
end
end

section
open Go Go.RowKit
set_option linter.unusedVariables false

/-- Edges as cells; a slice of edges. -/
def ec (l : List (Nat × Nat × Nat)) : List Value := l.flatMap fun a => [.int .i64 (a.1 : Int), .int .i64 (a.2.1 : Int), .int .i64 (a.2.2 : Int)]
end

section
open Go.RowKit
set_option linter.unusedVariables false

def INF : Int := 1125899906842624
section
variable {t : Tsk} {D : Nat → Int}
end
end

end Go.Proofs.YtaampjhdgeoicaaGreat
