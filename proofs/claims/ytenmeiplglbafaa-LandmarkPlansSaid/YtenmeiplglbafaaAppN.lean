/- append to a row of the call's own, the source whatever slice is read (nil or not, its capacity not known). -/
import Derived.Test.YtenmeiplglbafaaData
import Derived.Maps.AppendAt
import Derived.Laws.AppendOwnNone
import Derived.Deep.RegionHeld3
import Derived.Deep.AppendLies
import Derived.Laws.OwnMore
import Derived.Test.YtenmeiplglbafaaFac
namespace Go.Proofs.Ytenmeiplglbafaa
set_option linter.unusedSimpArgs false
set_option linter.unusedVariables false
open Go.RowKit

/-- A slice whose cells hold the values news (size cells an element). -/
structure SrcNt (w : World) (A : Option Addr) (m c size : Nat) (news : List Value) : Prop where
  none : A = none → m = 0
  len : news.length = m * size
  cells : ∀ ad, A = some ad → ∀ j u, news[j]? = some u → w.cell? (ad.add j) = some u
  one : ∀ u ∈ news, u.oneCell' = true

section
variable {P : Program} {w : World}
theorem run_append_none (base : Nat) (t ty e : TypeId) (i : TypeInfo) (size : Nat) (ht : P.underlying t = some (.slice e)) (hi : P.info? e = some i)
    (v : Value) (n : Nat) (xs : List Value) (hown : w.ownsRow base e size v n xs) (c : Nat) :
    (Builtin.append_ #[t, t] ty #[v, .slice none 0 c]).run P w = .ok v w := by
  rcases hown.2 with ⟨rfl, rfl⟩ | ⟨g, cap, cur, rfl, _, _, hnc, _⟩
  · simp [Builtin.append_, run_underlying ht, sizeOf, typeInfo, hi, Builtin.lenOf, Builtin.firstCells]
  · simp [Builtin.append_, run_underlying ht, sizeOf, typeInfo, hi, Builtin.lenOf, Builtin.firstCells, hnc, storeCells]
theorem grown_refl' (row : Option Nat) : w.grownBy w row := ⟨rfl, rfl, rfl, Nat.le_refl _, fun _ _ _ => rfl⟩

theorem wp_append_srn {o : Oper} {a : Act} {K : Act → World → Prop} {Q : Exit → Act → World → Prop} (s x : Operand) (t : TypeId)
    (ho : o.op = .call { callee := .builtin .append, args := #[s, x], argTypes := #[t, t] })
    (base : Nat) (e : TypeId) (i : TypeInfo) (z : Value) (size bytes : Nat) (ht : P.underlying t = some (.slice e)) (hi : P.info? e = some i) (hz : i.zero = some z)
    (hsize : i.size = size) (hby : i.bytes = bytes) (hzs : z.cells.size = size) (hsz : 0 < size)
    (v : Value) (n : Nat) (xs : List Value) (hs : a.eval s = v) (hown : w.ownsRow base e size v n xs)
    (A : Option Addr) (m c : Nat) (news : List Value) (hx : a.eval x = .slice A m c) (hsrc : SrcNt w A m c size news)
    (h63 : n + m ≤ maxLen) (hbytes : (n + m) * bytes ≤ 140737488355328) (hbase : base ≤ w.heap.size)
    (h : ∀ v' w', w'.ownsRow base e size v' (n + m) (xs ++ news) → w.grownBy w' v.ownBlock → (v'.ownBlock = v.ownBlock ∨ v'.ownBlock = some w.heap.size) → K (a.put o.dst v') w') : o.wp P a w K Q := by
  cases A with
  | none =>
    obtain rfl := hsrc.none rfl
    have hn : news = [] := List.length_eq_zero_iff.1 (by rw [hsrc.len]; simp)
    subst hn
    have hr := run_append_none (P := P) (w := w) base t o.type e i size ht hi v n xs hown c
    unfold Oper.wp execOp
    simp only [ho, resolve, invoke, builtin, Sem.run_bind, Sem.run_pure, Result.andThen_ok, List.map_toArray, List.map_cons, List.map_nil, hs, hx, hr]
    exact h v w (by simpa using hown) (grown_refl' _) (.inl rfl)
  | some ad =>
    obtain ⟨v', w', hr, h2, h3, _, h5⟩ := run_append_own_at (P := P) w base t o.type e i z size bytes ht hi hz hsize hby hzs hsz v n xs hown ad m c news hsrc.len (hsrc.cells ad rfl) hsrc.one h63 hbytes hbase
    unfold Oper.wp execOp
    simp only [ho, resolve, invoke, builtin, Sem.run_bind, Sem.run_pure, Result.andThen_ok, List.map_toArray, List.map_cons, List.map_nil, hs, hx, hr]
    exact h v' w' h2 h3 h5

theorem wpList_append_srn {ops : Array Oper} {rest : List Oper} {o : Oper} {a : Act} {Q : Exit → Act → World → Prop} (hgd : o.guard = .none) (s x : Operand) (t : TypeId)
    (ho : o.op = .call { callee := .builtin .append, args := #[s, x], argTypes := #[t, t] })
    (base : Nat) (e : TypeId) (i : TypeInfo) (z : Value) (size bytes : Nat) (ht : P.underlying t = some (.slice e)) (hi : P.info? e = some i) (hz : i.zero = some z)
    (hsize : i.size = size) (hby : i.bytes = bytes) (hzs : z.cells.size = size) (hsz : 0 < size)
    (v : Value) (n : Nat) (xs : List Value) (hs : a.eval s = v) (hown : w.ownsRow base e size v n xs)
    (A : Option Addr) (m c : Nat) (news : List Value) (hx : a.eval x = .slice A m c) (hsrc : SrcNt w A m c size news)
    (h63 : n + m ≤ maxLen) (hbytes : (n + m) * bytes ≤ 140737488355328) (hbase : base ≤ w.heap.size)
    (h : ∀ v' w', w'.ownsRow base e size v' (n + m) (xs ++ news) → w.grownBy w' v.ownBlock → (v'.ownBlock = v.ownBlock ∨ v'.ownBlock = some w.heap.size) → wpList P ops Q rest (a.put o.dst v') w') :
    wpList P ops Q (o :: rest) a w :=
  wpList_plain hgd fun _ hK => wp_append_srn s x t ho base e i z size bytes ht hi hz hsize hby hzs hsz v n xs hs hown A m c news hx hsrc h63 hbytes hbase fun v' w' h2 h3 h4 => hK _ _ (h v' w' h2 h3 h4)

theorem step_append_srn {ops : Array Oper} {o : Oper} {a : Act} {K : Act → World → Prop} {Q : Exit → Act → World → Prop} {E : Prop} (hgd : o.guard = .none) (s x : Operand) (t : TypeId)
    (ho : o.op = .call { callee := .builtin .append, args := #[s, x], argTypes := #[t, t] })
    (base : Nat) (e : TypeId) (i : TypeInfo) (z : Value) (size bytes : Nat) (ht : P.underlying t = some (.slice e)) (hi : P.info? e = some i) (hz : i.zero = some z)
    (hsize : i.size = size) (hby : i.bytes = bytes) (hzs : z.cells.size = size) (hsz : 0 < size)
    (v : Value) (n : Nat) (xs : List Value) (hs : a.eval s = v) (hown : w.ownsRow base e size v n xs)
    (A : Option Addr) (m c : Nat) (news : List Value) (hx : a.eval x = .slice A m c) (hsrc : SrcNt w A m c size news)
    (h63 : n + m ≤ maxLen) (hbytes : (n + m) * bytes ≤ 140737488355328) (hbase : base ≤ w.heap.size)
    (h : ∀ v' w', w'.ownsRow base e size v' (n + m) (xs ++ news) → w.grownBy w' v.ownBlock → (v'.ownBlock = v.ownBlock ∨ v'.ownBlock = some w.heap.size) → K (a.put o.dst v') w') :
    if Region.wanted o (yielded ops a.tmps) = true then Oper.wp P o a w K Q else E := by
  have hw : Region.wanted o (yielded ops a.tmps) = true := by simp [Region.wanted, hgd]
  rw [if_pos hw]
  exact wp_append_srn s x t ho base e i z size bytes ht hi hz hsize hby hzs hsz v n xs hs hown A m c news hx hsrc h63 hbytes hbase h
end

theorem fcl_len (l : List (Int × Int)) : (fcl l).length = l.length * 2 := by
  induction l with
  | nil => rfl
  | cons f l ih => show (_ :: _ :: fcl l).length = _; simp only [List.length_cons, ih]; omega
theorem fcl_at {l : List (Int × Int)} {j : Nat} {u : Value} (h : (fcl l)[j]? = some u) : ∃ k, k < l.length ∧ ((j = k * 2 ∧ u = .int .i64 (fv l k)) ∨ (j = k * 2 + 1 ∧ u = .int .i64 (fx l k))) := by
  have hj : j < (fcl l).length := (List.getElem?_eq_some_iff.1 h).1
  rw [fcl_len] at hj
  refine ⟨j / 2, by omega, ?_⟩
  obtain ⟨h1, h2⟩ := fcl_get l (j / 2) (by omega)
  rcases Nat.mod_two_eq_zero_or_one j with e | e
  · have e2 : j = j / 2 * 2 := by omega
    rw [← e2] at h1; rw [h1] at h; cases h; exact .inl ⟨e2, rfl⟩
  · have e2 : j = j / 2 * 2 + 1 := by omega
    rw [← e2] at h2; rw [h2] at h; cases h; exact .inr ⟨e2, rfl⟩
/-- Facts as a source. -/
theorem facts_srn {w : World} {B : Nat} {A : Option Addr} {l : List (Int × Int)} {c : Nat} (h : FactsAt w B A l) : SrcNt w A l.length c 2 (fcl l) where
  none := fun e => by
    rcases Nat.eq_zero_or_pos l.length with h0 | h0
    · exact h0
    · obtain ⟨b, off, e2, _⟩ := h.2 h0; rw [e] at e2; cases e2
  len := fcl_len l
  cells := fun ad e j u hj => by
    obtain ⟨k, hk, hu⟩ := fcl_at hj
    obtain ⟨b, off, e2, _, hc⟩ := h.2 (by omega)
    rw [e] at e2
    cases e2
    rcases hu with ⟨rfl, rfl⟩ | ⟨rfl, rfl⟩
    · have h1 := (hc k hk).1
      simp [Addr.add]
      split
      · rename_i h0; have : k = 0 := by omega
        subst this; simpa using h1
      · simpa using h1
    · have h1 := (hc k hk).2
      simpa [Addr.add, Nat.add_assoc] using h1
  one := fun u hu => by
    obtain ⟨j, hj, e⟩ := List.mem_iff_getElem.1 hu
    obtain ⟨k, hk, hh⟩ := fcl_at (l := l) (j := j) (u := u) (by rw [List.getElem?_eq_getElem hj, e])
    rcases hh with ⟨_, rfl⟩ | ⟨_, rfl⟩ <;> rfl
theorem src_ofN {W : World} {H size : Nat} {T : TypeId} {vals : List Value} (hH : W.heap[H]? = some (.cells vals.toArray T (0, 0))) (hl : vals.length = size) (h1 : ∀ u ∈ vals, u.oneCell' = true) : SrcNt W (some ⟨H, 0, none⟩) 1 1 size vals where
  none := fun e => nomatch e
  len := by omega
  cells := fun ad e => by
    cases e
    intro j u hj
    have h2 := cell_of_row W H j vals.toArray T (0, 0) hH
    rw [show vals.toArray[j]? = some u by simpa using hj] at h2
    simp only [Addr.add]
    split
    · rename_i h0; subst h0; exact h2
    · rw [Nat.zero_add]; exact h2
  one := h1

end Go.Proofs.Ytenmeiplglbafaa
