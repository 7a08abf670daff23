/- Texts laid together: VbA, RegA, VbB, VbI, VbC. -/
import Derived.Test.YtlkebhiaimijiaaGreatDoorBel
import Derived.Test.YtlkebhiaimijiaaGreatDoorNgD
import Derived.Test.YtlkebhiaimijiaaGreatDoorNgA
import Derived.Test.YtlkebhiaimijiaaGreatDoorNgC
import Derived.Test.YtlkebhiaimijiaaGreatDoorShlV
import Derived.Maps.AppendAt
import Derived.Lib.BufferMore
namespace Go.Proofs.YtlkebhiaimijiaaGreatDoor
set_option linter.unusedSimpArgs false
set_option linter.unusedVariables false
section
open Go Go.RowKit
set_option linter.unusedVariables false

def hls (hs : List Hd) : List (List Fct) := hs.map Hd.l
/-- A slice of slices of facts that is read: it and the facts lie outside bad blocks. -/
def Rls (w : World) (bad : Nat → Prop) (A : Option Addr) (hs : List Hd) : Prop :=
 hs.length ≤ 1000000 ∧ (0 < hs.length → ∃ b off, A = some ⟨b, off, none⟩ ∧ b < w.heap.size ∧ ¬ bad b ∧ ∀ k, k < hs.length → w.cell? ⟨b, off + k, none⟩ = some (.slice (hd hs k).a (hd hs k).l.length (hd hs k).c)) ∧ ∀ h ∈ hs, Fac w bad h.a h.l
section
variable {w w' : World} {bad bad' : Nat → Prop} {A : Option Addr} {hs : List Hd}
theorem Rls.move (h : Rls w bad A hs) (m : Moves w w' bad bad') : Rls w' bad' A hs :=
 ⟨h.1, fun hn => by
  obtain ⟨b, off, e, hb, hx, hc⟩ := h.2.1 hn
  exact ⟨b, off, e, Nat.lt_of_lt_of_le hb m.size, fun h2 => hx (m.bad b hb h2), fun k hk => (m.cell (p := ⟨b, _, none⟩) hb hx).trans (hc k hk)⟩, fun x hx => (h.2.2 x hx).move m⟩
theorem Rls.at_ (h : Rls w bad A hs) {k : Nat} (hk : k < hs.length) : ∃ b off, A = some ⟨b, off, none⟩ ∧ b < w.heap.size ∧ ¬ bad b ∧ ∀ k, k < hs.length → w.cell? ⟨b, off + k, none⟩ = some (.slice (hd hs k).a (hd hs k).l.length (hd hs k).c) := h.2.1 (by omega)
theorem Rls.fac (h : Rls w bad A hs) {k : Nat} (hk : k < hs.length) : Fac w bad (hd hs k).a (hd hs k).l := h.2.2 _ (hd_mem hk)
theorem Rls.len (h : Rls w bad A hs) : hs.length ≤ 1000000 := h.1
theorem Fac.up {l : List Fct} (h : Fac w bad A l) (k : Below w.heap.size w w') : Fac w' bad A l := h.move (Moves.up k)
theorem Fac.sub {l : List Fct} (h : Fac w bad A l) (hb : ∀ b, b < w.heap.size → bad' b → bad b) : Fac w bad' A l := h.move (Moves.mono hb)
theorem Rls.up (h : Rls w bad A hs) (k : Below w.heap.size w w') : Rls w' bad A hs := h.move (Moves.up k)
theorem Rls.sub (h : Rls w bad A hs) (hb : ∀ b, b < w.heap.size → bad' b → bad b) : Rls w bad' A hs := h.move (Moves.mono hb)
theorem Fac.kb {l : List Fct} (h : Fac w bad A l) (k : Kb bad w w') : Fac w' bad A l := h.move k.moves
theorem Rls.kb (h : Rls w bad A hs) (k : Kb bad w w') : Rls w' bad A hs := h.move k.moves
/-- Facts that are read, outside of nothing. -/
theorem fac_of {l : List Fct} (h : FactsAt w w.heap.size A l) : Fac w (fun _ => False) A l :=
 ⟨h.1, fun hn => by
  obtain ⟨b, off, e, hb, hc⟩ := h.2 hn
  exact ⟨b, off, e, hb, fun h => h, hc⟩⟩
theorem fac_low {l : List Fct} {B : Nat} (h : FactsAt w B A l) (hB : B ≤ w.heap.size) (hb : ∀ b, b < B → ¬ bad b) : Fac w bad A l :=
 ⟨h.1, fun hn => by
  obtain ⟨b, off, e, hb', hc⟩ := h.2 hn
  exact ⟨b, off, e, by omega, hb b hb', hc⟩⟩
theorem fac_nil (w : World) (bad : Nat → Prop) (A : Option Addr) : Fac w bad A [] := ⟨by simp, fun h => absurd h (by simp)⟩
theorem hd_app {hs : List Hd} {x : Hd} {k : Nat} (h : k < hs.length) : hd (hs ++ [x]) k = hd hs k := by unfold hd; simp [List.getD, List.getElem?_append_left h]
theorem hd_last {hs : List Hd} {x : Hd} : hd (hs ++ [x]) hs.length = x := by unfold hd; simp [List.getD]
theorem hls_hd {hs : List Hd} {k : Nat} (h : k < hs.length) : (hls hs).getD k [] = (hd hs k).l := by unfold hls hd; simp [List.getD, List.getElem?_eq_getElem h]
theorem mem_hls {hs : List Hd} {z : List Fct} : z ∈ hls hs ↔ ∃ k, k < hs.length ∧ z = (hd hs k).l := by
 unfold hls
 rw [List.mem_map]
 constructor
 ·rintro ⟨x, hx, rfl⟩
  obtain ⟨k, hk, rfl⟩ := List.mem_iff_getElem.1 hx
  exact ⟨k, hk, by unfold hd; simp [List.getD, List.getElem?_eq_getElem hk]⟩
 ·rintro ⟨k, hk, rfl⟩
  exact ⟨_, hd_mem hk, rfl⟩
end
/-- A row of the call's own of slices of facts; the facts lie outside bad blocks. -/
structure Orl (w : World) (base : Nat) (bad : Nat → Prop) (v : Value) (hs : List Hd) : Prop where
 own : w.ownsRow base 23 1 v hs.length (hs.map Hd.v)
 fac : ∀ h ∈ hs, Fac w bad h.a h.l
section
variable {w w' : World} {base : Nat} {bad bad' : Nat → Prop} {v v' : Value} {hs : List Hd}
theorem Orl.nil (w : World) (base : Nat) (bad : Nat → Prop) : Orl w base bad (.slice none 0 0) [] := ⟨World.ownsRow_nil _ _ _ _, fun h hh => by cases hh⟩
theorem Orl.up (h : Orl w base bad v hs) (k : Below w.heap.size w w') : Orl w' base bad v hs := ⟨own_below h.own k, fun x hx => (h.fac x hx).up k⟩
theorem Orl.shape (h : Orl w base bad v hs) : ∃ A c, v = .slice A hs.length c := own_shape h.own
theorem Orl.push (h : Orl w base bad v hs) (x : Hd) (hx : Fac w bad x.a x.l) (ho : w'.ownsRow base 23 1 v' (hs.length + 1) (hs.map Hd.v ++ [x.v])) (m : Moves w w' bad bad') : Orl w' base bad' v' (hs ++ [x]) where
 own := by rw [List.length_append, List.map_append]; exact ho
 fac := fun y hy => by
  rcases List.mem_append.1 hy with h1 | h1
  ·exact (h.fac y h1).move m
  ·simp at h1; subst h1; exact hx.move m
/-- A row of the call's own as a slice that is read. -/
theorem Orl.rls {A : Option Addr} {c : Nat} (h : Orl w base bad (.slice A hs.length c) hs) (hl : hs.length ≤ 1000000) (hb : ∀ b off, A = some ⟨b, off, none⟩ → ¬ bad b) : Rls w bad A hs := by
 refine ⟨hl, fun hn => ?_, h.fac⟩
 rcases h.own.2 with ⟨_, h0⟩ | ⟨b, cap, cur, hv, hB, hg, _⟩
 ·omega
 ·injection hv with e1 e2 e3
  subst e1
  refine ⟨b, 0, rfl, (Array.getElem?_eq_some_iff.1 hg).1, hb b 0 rfl, fun k hk => ?_⟩
  subst e3
  rw [Nat.zero_add]
  have := own_cell h.own (i := k) (u := (hd hs k).v) (by rw [List.getElem?_map, hd_get hk]; rfl)
  exact this
end
/-- A row that grows: what is outside it and other bad blocks stays. -/
theorem moves_grow {w w' : World} {v v' : Value} {q : Nat → Prop} (hg : w.grownBy w' v.ownBlock) (hat : v'.ownBlock = v.ownBlock ∨ v'.ownBlock = some w.heap.size) :
  Moves w w' (fun b => v.ownBlock = some b ∨ q b) (fun b => v'.ownBlock = some b ∨ q b) :=
 Moves.grown hg (fun b h => .inl h) fun b hb h => by
  rcases h with h | h
  ·rcases hat with e | e
   ·exact .inl (e ▸ h)
   ·rw [e] at h; cases h; omega
  ·exact .inr h
end

section
open Go Go.RowKit
set_option linter.unusedVariables false

section
variable {P : Program} {ops : Array Oper} {Q : Exit → Act → World → Prop} {md : Region.Mode} {S T : World → Prop} {st : Nat}
/-- The walk's steps, with the grounds found by the walk itself. An operation that needs no memory. -/
theorem wpS1 (i : Nat) {oi : Oper} {v : Value} {fuel : Nat} {listed : Array Bool} {a a' : Act} {w : World} (hcl : Cl md ops listed ∧ Gd st S listed w)
  (h : Cl md ops (listed.setIfInBounds i true) ∧ Gd st S (listed.setIfInBounds i true) w → wpAnyG P md ops Q st S fuel (listed.setIfInBounds i true) a' w)
  (hi : ops[i]? = some oi := by exact rfl) (hs : Region.noSelect ops = true := by kernel_rfl) (hf : Region.free md ops listed i = true := by kernel_rfl) (hr : (Region.ready md ops listed).contains i = true := by kernel_rfl) (hne : (i == st) = false := by exact rfl) (hw : Region.wanted oi (yielded ops a.tmps) = true := by exact rfl)
  (hy : ∀ w, (fun _ : World => True) w → (execOp a.eval oi).run P w = .ok (.value v) w := by (intro wS hSw; (try dsimp only at hSw); first | (go_simp; done) | (go_simp; with_reducible rfl) | (simp [go_sem, ↓IntWalk.iteOmega, *]; done) | (simp [go_sem, ↓IntWalk.iteOmega, *]; with_reducible rfl)))
  (ha : a.put oi.dst v = a' := by (try simp only [Act.put, List.setIfInBounds_toArray, List.set_cons_zero, List.set_cons_succ, List.getElem_toArray, List.getElem_cons_succ, List.getElem_cons_zero]); exact rfl) (hQ : ∀ c a w, Q (.panic c) (a.put oi.dst v) w → Q (.panic c) a w := by exact fun _ _ _ h => h) : wpAnyG P md ops Q st S (fuel + 1) listed a w :=
 wpAnyG_any hi hcl hs hf hr hne hQ (Or.inl ⟨hw, hy⟩) (ha ▸ h)
/-- A load. -/
theorem wpS2 (i : Nat) {oi : Oper} {v : Value} {fuel : Nat} {listed : Array Bool} {a a' : Act} {w : World} (hcl : Cl md ops listed ∧ Gd st S listed w)
  (h : Cl md ops (listed.setIfInBounds i true) ∧ Gd st S (listed.setIfInBounds i true) w → wpAnyG P md ops Q st S fuel (listed.setIfInBounds i true) a' w)
  (hi : ops[i]? = some oi := by exact rfl) (hs : Region.noSelect ops = true := by kernel_rfl) (hf : Region.free md ops listed i = true := by kernel_rfl) (hr : (Region.ready md ops listed).contains i = true := by kernel_rfl) (hne : (i == st) = false := by exact rfl) (hp : pathB md ops i st = true := by kernel_rfl) (hw : Region.wanted oi (yielded ops a.tmps) = true := by exact rfl)
  (hy : ∀ w, S w → (execOp a.eval oi).run P w = .ok (.value v) w := by (intro wS hSw; (try dsimp only at hSw); first | (go_simp; done) | (go_simp; with_reducible rfl) | (simp [go_sem, ↓IntWalk.iteOmega, *]; done) | (simp [go_sem, ↓IntWalk.iteOmega, *]; with_reducible rfl)))
  (ha : a.put oi.dst v = a' := by (try simp only [Act.put, List.setIfInBounds_toArray, List.set_cons_zero, List.set_cons_succ, List.getElem_toArray, List.getElem_cons_succ, List.getElem_cons_zero]); exact rfl) (hQ : ∀ c a w, Q (.panic c) (a.put oi.dst v) w → Q (.panic c) a w := by exact fun _ _ _ h => h) : wpAnyG P md ops Q st S (fuel + 1) listed a w :=
 wpAnyG_take hi hcl hs hf hr hne hp hQ (Or.inl ⟨hw, hy⟩) (ha ▸ h)
/-- An operation whose guard does not hold. -/
theorem wpS0 (i : Nat) {oi : Oper} {fuel : Nat} {listed : Array Bool} {a a' : Act} {w : World} (hcl : Cl md ops listed ∧ Gd st S listed w)
  (h : Cl md ops (listed.setIfInBounds i true) ∧ Gd st S (listed.setIfInBounds i true) w → wpAnyG P md ops Q st S fuel (listed.setIfInBounds i true) a' w)
  (hi : ops[i]? = some oi := by exact rfl) (hs : Region.noSelect ops = true := by kernel_rfl) (hf : Region.free md ops listed i = true := by kernel_rfl) (hr : (Region.ready md ops listed).contains i = true := by kernel_rfl) (hne : (i == st) = false := by exact rfl) (hw : Region.wanted oi (yielded ops a.tmps) = false := by exact rfl)
  (ha : a.put oi.dst undef = a' := by (try simp only [Act.put, List.setIfInBounds_toArray, List.set_cons_zero, List.set_cons_succ, List.getElem_toArray, List.getElem_cons_succ, List.getElem_cons_zero]); exact rfl) (hQ : ∀ c a w, Q (.panic c) (a.put oi.dst undef) w → Q (.panic c) a w := by exact fun _ _ _ h => h) : wpAnyG P md ops Q st S (fuel + 1) listed a w :=
 wpAnyG_any hi hcl hs hf hr hne hQ (Or.inr ⟨hw, rfl⟩) (ha ▸ h)
/-- An operation whose value is told. -/
theorem wpS3 (i : Nat) (v : Value) {oi : Oper} {fuel : Nat} {listed : Array Bool} {a a' : Act} {w : World} (hcl : Cl md ops listed ∧ Gd st S listed w)
  (h : Cl md ops (listed.setIfInBounds i true) ∧ Gd st S (listed.setIfInBounds i true) w → wpAnyG P md ops Q st S fuel (listed.setIfInBounds i true) a' w)
  (hi : ops[i]? = some oi := by exact rfl) (hs : Region.noSelect ops = true := by kernel_rfl) (hf : Region.free md ops listed i = true := by kernel_rfl) (hr : (Region.ready md ops listed).contains i = true := by kernel_rfl) (hne : (i == st) = false := by exact rfl) (hw : Region.wanted oi (yielded ops a.tmps) = true := by exact rfl)
  (hy : ∀ w, (fun _ : World => True) w → (execOp a.eval oi).run P w = .ok (.value v) w := by (intro wS hSw; (try dsimp only at hSw); (try go_simp); (try simp [go_sem, ↓IntWalk.iteOmega, *])))
  (ha : a.put oi.dst v = a' := by (try simp only [Act.put, List.setIfInBounds_toArray, List.set_cons_zero, List.set_cons_succ, List.getElem_toArray, List.getElem_cons_succ, List.getElem_cons_zero]); exact rfl) (hQ : ∀ c a w, Q (.panic c) (a.put oi.dst v) w → Q (.panic c) a w := by exact fun _ _ _ h => h) : wpAnyG P md ops Q st S (fuel + 1) listed a w :=
 wpAnyG_any hi hcl hs hf hr hne hQ (Or.inl ⟨hw, hy⟩) (ha ▸ h)
/-- The slots in normal form. -/
theorem wpN {fuel : Nat} {listed : Array Bool} {a a' : Act} {w : World} (h : wpAnyG P md ops Q st S fuel listed a' w) (ha : a = a' := by (try simp only [Act.put, List.setIfInBounds_toArray, List.set_cons_zero, List.set_cons_succ, List.getElem_toArray, List.getElem_cons_succ, List.getElem_cons_zero]); exact rfl) : wpAnyG P md ops Q st S fuel listed a w := ha ▸ h
end
end

section
open Go Go.RowKit
set_option linter.unusedVariables false

theorem findF_cons (x : Fct) (r : List Fct) (v : Int) : findF (x :: r) v = if x.1 = v then x.2 else findF r v := rfl
theorem fv_cons {x : Fct} {r : List Fct} {k : Nat} : fv (x :: r) (k + 1) = fv r k := rfl
theorem fx_cons {x : Fct} {r : List Fct} {k : Nat} : fx (x :: r) (k + 1) = fx r k := rfl
theorem find_at : ∀ {p : List Fct} {v : Int} {k : Nat}, k < p.length → (∀ j, j < k → fv p j ≠ v) → fv p k = v → findF p v = fx p k
 | [], v, k, h, _, _ => absurd h (by simp)
 | x :: r, v, 0, _, _, h => by rw [findF_cons, if_pos (show x.1 = v from h)]; rfl
 | x :: r, v, k + 1, h, hn, he => by
  rw [findF_cons, if_neg (show x.1 ≠ v from hn 0 (by omega))]
  exact find_at (by simpa using h) (fun j hj => hn (j + 1) (by omega)) he
theorem find_end : ∀ {p : List Fct} {v : Int}, (∀ j, j < p.length → fv p j ≠ v) → findF p v = -1
 | [], v, _ => rfl
 | x :: r, v, hn => by
  rw [findF_cons, if_neg (show x.1 ≠ v from hn 0 (by simp))]
  exact find_end fun j hj => hn (j + 1) (by simpa using hj)

set_option maxHeartbeats 1000000 in
theorem find_any (p : List Fct) (v : Int) (A : Option Addr) (c : Nat) (w : World) (h : FactsAt w w.heap.size A p) :
  Calls Tryz.prog 118 #[.slice A p.length c, .int .i64 v] w fun e w' => e = .returned (.int .i64 (findF p v)) ∧ Below w.heap.size w w' := by
 have l1 := h.len
 go_enter Tryz.func118, Tryz.ntmps118
 go_wp2
 go_loopw [9] (fun i wr => ∃ k : Nat, k ≤ p.length ∧ i = .int .i64 k ∧ (∀ j, j < k → fv p j ≠ v) ∧ Below w.heap.size w wr) (fun i _ => p.length - (intOf i).toNat)
 case atStart => exact ⟨0, by omega, rfl, fun j hj => absurd hj (by omega), Below.refl _ _⟩
 case round =>
  obtain ⟨k, hk, rfl, hok, hbel⟩ := hrel
  have Hok := Lib.hid hok
  clear hok
  by_cases hlt : k < p.length
  ·obtain ⟨b, o, rfl, hb, hc⟩ := h.at_ hlt
   have hbz := hbel.size
   have d1 := (hbel.cell (p := ⟨b, o + k * 2, none⟩) hb).trans (hc k hlt).1
   have d2 := (hbel.cell (p := ⟨b, o + k * 2 + 1, none⟩) hb).trans (hc k hlt).2
   have g2 : b < wr.heap.size := by omega
   clear hc
   by_cases q : fv p k = v
   ·have Hf := Lib.hid (find_at hlt Hok.out q)
    go_wp2
    go_ret
    refine ⟨ret_int Hf.out.symm, ?_⟩
    exact bel
   ·go_wp2
    go_roundw
    case rel => exact ⟨k + 1, by omega, by go_num, fun j hj => by rcases Nat.lt_succ_iff_lt_or_eq.1 hj with h1 | rfl; exact Hok.out j h1; exact q, by exact bel⟩
    case measure => simp [intOf]; omega
  ·have Ht := Lib.hid (find_end (p := p) (v := v) fun j hj => Hok.out j (by omega))
   go_wp2
   go_ret
   refine ⟨ret_int Ht.out.symm, ?_⟩
   exact bel

/-- The first k facts of b are in a. -/
def cnK (a b : List Fct) (k : Nat) : Prop := ∀ j, j < k → findF a (fv b j) = fx b j
theorem cn_of {a b : List Fct} (h : cnK a b b.length) : cnB a b = true := by
 unfold cnB
 rw [List.all_eq_true]
 intro x hx
 obtain ⟨k, hk, rfl⟩ := mem_fct hx
 rw [beq_iff_eq]
 exact h k hk
theorem cn_not {a b : List Fct} {k : Nat} (hk : k < b.length) (h : findF a (fv b k) ≠ fx b k) : cnB a b = false := by
 cases e : cnB a b
 ·rfl
 ·unfold cnB at e
  rw [List.all_eq_true] at e
  have := e _ (fct_mem hk)
  rw [beq_iff_eq] at this
  exact absurd this h

set_option maxHeartbeats 2000000 in
theorem contains_any (p q : List Fct) (A1 A2 : Option Addr) (c1 c2 : Nat) (w : World) (h1 : FactsAt w w.heap.size A1 p) (h2 : FactsAt w w.heap.size A2 q) :
  Calls Tryz.prog 98 #[.slice A1 p.length c1, .slice A2 q.length c2] w fun e w' => e = .returned (.bool (cnB p q)) ∧ Below w.heap.size w w' := by
 have l2 := h2.len
 have KF := Lib.hid (fun (v : Int) (w1 : World) (hb : Below w.heap.size w w1) => find_any p v A1 c1 w1 (h1.up hb))
 clear h1
 go_enter Tryz.func98, Tryz.ntmps98
 go_wp2
 go_loopw [9] (fun i wr => ∃ k : Nat, k ≤ q.length ∧ i = .int .i64 k ∧ cnK p q k ∧ Below w.heap.size w wr) (fun i _ => q.length - (intOf i).toNat)
 case atStart => exact ⟨0, by omega, rfl, fun j hj => absurd hj (by omega), Below.refl _ _⟩
 case round =>
  obtain ⟨k, hk, rfl, hok, hbel⟩ := hrel
  have Hok := Lib.hid hok
  clear hok
  by_cases hlt : k < q.length
  ·obtain ⟨b, o, rfl, hb, hc⟩ := h2.at_ hlt
   have hbz := hbel.size
   have d1 := (hbel.cell (p := ⟨b, o + k * 2, none⟩) hb).trans (hc k hlt).1
   have d2 := (hbel.cell (p := ⟨b, o + k * 2 + 1, none⟩) hb).trans (hc k hlt).2
   have g2 : b < wr.heap.size := by omega
   clear hc
   by_cases q1 : findF p (fv q k) = fx q k
   ·go_wp2_with fail
    have hA := Lib.hid (show Below w.heap.size w (wr.alloc (.cells #[.int .i64 (fv q k), .int .i64 (fx q k)] 68)) from hbel.alloc hbz _)
    refine wp_region_aft (by kernel_rfl) (by kernel_rfl) (by (try simp); exact rfl) ?_; intro haft; (repeat (go_big_quiet_step ((go_at_call 118; exact aft_of (KF.out _ _ (below_step (Aft.below _) (by simp; omega) hA.out)))))); refine wpQuiet_nil ?_; intro w1 hwx; have hb1 := aft_below hwx; clear hwx; obtain ⟨hc1, hf1, hz1, hlt1, hle1⟩ := cellsIf hb1 (by (try simp); exact rfl); (try have := s00 w w1); (try have := s01 w w1); (try have := s02 w w1); (try have := s10 w w1); (try have := s11 w w1); (try have := s12 w w1); (try have := s20 w w1); (try have := s21 w w1); (try have := s22 w w1); clear haft
    go_wp2
    go_roundw
    case rel => exact ⟨k + 1, by omega, by go_num, fun j hj => by rcases Nat.lt_succ_iff_lt_or_eq.1 hj with h1 | rfl; exact Hok.out j h1; exact q1, by exact bel⟩
    case measure => simp [intOf]; omega
   ·have Hf := Lib.hid (cn_not hlt q1)
    go_wp2_with fail
    have hA := Lib.hid (show Below w.heap.size w (wr.alloc (.cells #[.int .i64 (fv q k), .int .i64 (fx q k)] 68)) from hbel.alloc hbz _)
    refine wp_region_aft (by kernel_rfl) (by kernel_rfl) (by (try simp); exact rfl) ?_; intro haft; (repeat (go_big_quiet_step ((go_at_call 118; exact aft_of (KF.out _ _ (below_step (Aft.below _) (by simp; omega) hA.out)))))); refine wpQuiet_nil ?_; intro w1 hwx; have hb1 := aft_below hwx; clear hwx; obtain ⟨hc1, hf1, hz1, hlt1, hle1⟩ := cellsIf hb1 (by (try simp); exact rfl); (try have := s00 w w1); (try have := s01 w w1); (try have := s02 w w1); (try have := s10 w w1); (try have := s11 w w1); (try have := s12 w w1); (try have := s20 w w1); (try have := s21 w w1); (try have := s22 w w1); clear haft
    go_wp2
    go_ret
    refine ⟨bool_ret Hf.out.symm, ?_⟩
    exact bel
  ·have Ht := Lib.hid (cn_of (a := p) (b := q) fun j hj => Hok.out j (by omega))
   go_wp2
   go_ret
   refine ⟨bool_ret Ht.out.symm, ?_⟩
   exact bel

theorem cf_at {a b : List Fct} {k : Nat} (hk : k < b.length) (h0 : 0 ≤ findF a (fv b k)) (h1 : findF a (fv b k) ≠ fx b k) : cfB a b = true := by
 unfold cfB
 rw [List.any_eq_true]
 refine ⟨_, fct_mem hk, ?_⟩
 simp only [Bool.and_eq_true, decide_eq_true_eq, Bool.not_eq_true', beq_eq_false_iff_ne]
 exact ⟨h0, h1⟩
theorem cf_end {a b : List Fct} (h : ∀ j, j < b.length → ¬ (0 ≤ findF a (fv b j) ∧ findF a (fv b j) ≠ fx b j)) : cfB a b = false := by
 cases e : cfB a b
 ·rfl
 ·unfold cfB at e
  rw [List.any_eq_true] at e
  obtain ⟨x, hx, hh⟩ := e
  obtain ⟨k, hk, rfl⟩ := mem_fct hx
  simp only [Bool.and_eq_true, decide_eq_true_eq, Bool.not_eq_true', beq_eq_false_iff_ne] at hh
  exact absurd hh (h k hk)

set_option maxHeartbeats 2000000 in
theorem conflict_any (p q : List Fct) (A1 A2 : Option Addr) (c1 c2 : Nat) (w : World) (h1 : FactsAt w w.heap.size A1 p) (h2 : FactsAt w w.heap.size A2 q) :
  Calls Tryz.prog 154 #[.slice A1 p.length c1, .slice A2 q.length c2] w fun e w' => e = .returned (.bool (cfB p q)) ∧ Below w.heap.size w w' := by
 have l2 := h2.len
 have KF := Lib.hid (fun (v : Int) (w1 : World) (hb : Below w.heap.size w w1) => find_any p v A1 c1 w1 (h1.up hb))
 clear h1
 go_enter Tryz.func154, Tryz.ntmps154
 go_wp2
 go_loopw [10] (fun i wr => ∃ k : Nat, k ≤ q.length ∧ i = .int .i64 k ∧ (∀ j, j < k → ¬ (0 ≤ findF p (fv q j) ∧ findF p (fv q j) ≠ fx q j)) ∧ Below w.heap.size w wr) (fun i _ => q.length - (intOf i).toNat)
 case atStart => exact ⟨0, by omega, rfl, fun j hj => absurd hj (by omega), Below.refl _ _⟩
 case round =>
  obtain ⟨k, hk, rfl, hok, hbel⟩ := hrel
  have Hok := Lib.hid hok
  clear hok
  by_cases hlt : k < q.length
  ·obtain ⟨b, o, rfl, hb, hc⟩ := h2.at_ hlt
   have hbz := hbel.size
   have d1 := (hbel.cell (p := ⟨b, o + k * 2, none⟩) hb).trans (hc k hlt).1
   have d2 := (hbel.cell (p := ⟨b, o + k * 2 + 1, none⟩) hb).trans (hc k hlt).2
   have g2 : b < wr.heap.size := by omega
   clear hc
   by_cases q0 : 0 ≤ findF p (fv q k)
   ·by_cases q1 : findF p (fv q k) = fx q k
    ·go_wp2_with fail; refine (KF.out _ _ (by exact bel)).mono ?_; rintro e w1 ⟨rfl, hb1⟩; obtain ⟨hc1, hf1, hz1, hlt1, hle1⟩ := cellsIf hb1 (by (try simp); exact rfl); (try have := s00 w w1); (try have := s01 w w1); (try have := s02 w w1); (try have := s10 w w1); (try have := s11 w w1); (try have := s12 w w1); (try have := s20 w w1); (try have := s21 w w1); (try have := s22 w w1)
     go_wp2
     go_roundw
     case rel => exact ⟨k + 1, by omega, by go_num, fun j hj => by rcases Nat.lt_succ_iff_lt_or_eq.1 hj with h1 | rfl; exact Hok.out j h1; exact fun hh => hh.2 q1, by exact bel⟩
     case measure => simp [intOf]; omega
    ·have Hf := Lib.hid (cf_at hlt q0 q1)
     go_wp2_with fail; refine (KF.out _ _ (by exact bel)).mono ?_; rintro e w1 ⟨rfl, hb1⟩; obtain ⟨hc1, hf1, hz1, hlt1, hle1⟩ := cellsIf hb1 (by (try simp); exact rfl); (try have := s00 w w1); (try have := s01 w w1); (try have := s02 w w1); (try have := s10 w w1); (try have := s11 w w1); (try have := s12 w w1); (try have := s20 w w1); (try have := s21 w w1); (try have := s22 w w1)
     go_wp2
     go_ret
     refine ⟨bool_ret Hf.out.symm, ?_⟩
     exact bel
   ·go_wp2_with fail; refine (KF.out _ _ (by exact bel)).mono ?_; rintro e w1 ⟨rfl, hb1⟩; obtain ⟨hc1, hf1, hz1, hlt1, hle1⟩ := cellsIf hb1 (by (try simp); exact rfl); (try have := s00 w w1); (try have := s01 w w1); (try have := s02 w w1); (try have := s10 w w1); (try have := s11 w w1); (try have := s12 w w1); (try have := s20 w w1); (try have := s21 w w1); (try have := s22 w w1)
    go_wp2
    go_roundw
    case rel => exact ⟨k + 1, by omega, by go_num, fun j hj => by rcases Nat.lt_succ_iff_lt_or_eq.1 hj with h1 | rfl; exact Hok.out j h1; exact fun hh => by have := hh.1; omega, by exact bel⟩
    case measure => simp [intOf]; omega
  ·have Ht := Lib.hid (cf_end (a := p) (b := q) fun j hj => Hok.out j (by omega))
   go_wp2
   go_ret
   refine ⟨bool_ret Ht.out.symm, ?_⟩
   exact bel

/-- The first k facts are ascending, without negative numbers. -/
def VaOne (p : List Fct) (k : Nat) : Prop := 0 ≤ fv p k ∧ 0 ≤ fx p k ∧ (0 < k → fv p (k - 1) < fv p k)
theorem va_not {p : List Fct} {k : Nat} (hk : k < p.length) (h : ¬ VaOne p k) : vaB p = false := by
 unfold vaB
 rw [decide_eq_false_iff_not]
 exact fun hh => h (hh k hk)
theorem va_end {p : List Fct} (h : ∀ j, j < p.length → VaOne p j) : vaB p = true := by
 unfold vaB
 rw [decide_eq_true_eq]
 exact h

set_option maxHeartbeats 4000000 in
theorem valid_any (p : List Fct) (A : Option Addr) (c : Nat) (w : World) (h : FactsAt w w.heap.size A p) :
  Calls Tryz.prog 97 #[.slice A p.length c] w fun e w' => e = .returned (.bool (vaB p)) ∧ Below w.heap.size w w' := by
 have l1 := h.len
 go_enter Tryz.func97, Tryz.ntmps97
 go_wp2
 go_loopw [7] (fun i wr => ∃ k : Nat, k ≤ p.length ∧ i = .int .i64 k ∧ (∀ j, j < k → VaOne p j) ∧ Below w.heap.size w wr) (fun i _ => p.length - (intOf i).toNat)
 case atStart => exact ⟨0, by omega, rfl, fun j hj => absurd hj (by omega), Below.refl _ _⟩
 case round =>
  obtain ⟨k, hk, rfl, hok, hbel⟩ := hrel
  have Hok := Lib.hid hok
  clear hok
  by_cases hlt : k < p.length
  ·obtain ⟨b, o, rfl, hb, hc⟩ := h.at_ hlt
   have hbz := hbel.size
   have d1 := (hbel.cell (p := ⟨b, o + k * 2, none⟩) hb).trans (hc k hlt).1
   have d2 := (hbel.cell (p := ⟨b, o + k * 2 + 1, none⟩) hb).trans (hc k hlt).2
   have g2 : b < wr.heap.size := by omega
   by_cases q0 : fv p k < 0
   ·have Hf := Lib.hid (va_not hlt fun h => by have := h.1; omega)
    have e0 : decide (fv p k < 0) = true := by simpa using q0
    clear hc
    go_wp2
    go_quiet (fail)
    go_wp2
    go_ret
    refine ⟨bool_ret Hf.out.symm, ?_⟩
    exact bel
   have e0 : decide (fv p k < 0) = false := by simpa using q0
   by_cases q1 : fx p k < 0
   ·have Hf := Lib.hid (va_not hlt fun h => by have := h.2.1; omega)
    have e1 : decide (fx p k < 0) = true := by simpa using q1
    clear hc
    go_wp2
    go_quiet (fail)
    go_wp2
    go_ret
    refine ⟨bool_ret Hf.out.symm, ?_⟩
    exact bel
   have e1 : decide (fx p k < 0) = false := by simpa using q1
   by_cases k0 : k = 0
   ·subst k0
    clear hc
    simp only [Nat.zero_mul, Nat.add_zero] at d1 d2
    go_wp2
    go_quiet (fail)
    go_wp2
    go_roundw
    case rel => exact ⟨1, by omega, by go_num, (fun j (hj : j < 1) => (by have h0 : j = 0 := (by omega); rw [h0]; exact ⟨by omega, by omega, fun h => absurd h (by omega)⟩)), by exact bel⟩
    case measure => simp [intOf]; omega
   have d3 := (hbel.cell (p := ⟨b, o + (k - 1) * 2, none⟩) hb).trans (hc (k - 1) (by omega)).1
   have hk1 : (k : Int) - 1 = ((k - 1 : Nat) : Int) := by omega
   have hkp : decide (0 < k) = true := by simpa using (show 0 < k by omega)
   clear hc
   obtain ⟨m, hm⟩ : ∃ m, m = k - 1 := ⟨_, rfl⟩
   rw [← hm] at d3 hk1
   have hml : m < p.length := by omega
   by_cases q2 : fv p k ≤ fv p m
   ·have Hf := Lib.hid (va_not hlt fun h => by have := h.2.2 (by omega); rw [← hm] at this; omega)
    have e2 : decide (fv p k ≤ fv p m) = true := by simpa using q2
    have HM := Lib.hid hm
    clear hm
    go_wp2
    go_quiet (fail)
    go_wp2
    go_ret
    refine ⟨bool_ret Hf.out.symm, ?_⟩
    exact bel
   ·have e2 : decide (fv p k ≤ fv p m) = false := by simpa using q2
    have HM := Lib.hid hm
    clear hm
    go_wp2
    go_quiet (fail)
    go_wp2
    go_roundw
    case rel => exact ⟨k + 1, by omega, by go_num, fun j hj => by rcases Nat.lt_succ_iff_lt_or_eq.1 hj with h1 | rfl; exact Hok.out j h1; exact ⟨by omega, by omega, fun _ => by rw [← HM.out]; omega⟩, by exact bel⟩
    case measure => simp [intOf]; omega
  ·have Ht := Lib.hid (va_end (p := p) fun j hj => Hok.out j (by omega))
   go_wp2
   go_ret
   refine ⟨bool_ret Ht.out.symm, ?_⟩
   exact bel

/-- Contains. -/
def ctB (a b : List Fct) : Bool := vaB a && vaB b && cnB a b
set_option maxHeartbeats 2000000 in
theorem pcontains_any (p q : List Fct) (A1 A2 : Option Addr) (c1 c2 : Nat) (w : World) (h1 : FactsAt w w.heap.size A1 p) (h2 : FactsAt w w.heap.size A2 q) :
  Calls Tryz.prog 70 #[.slice A1 p.length c1, .slice A2 q.length c2] w fun e w' => e = .returned (.bool (ctB p q)) ∧ Below w.heap.size w w' := by
 have K1 := Lib.hid (fun (w1 : World) (hb : Below w.heap.size w w1) => valid_any p A1 c1 w1 (h1.up hb))
 have K2 := Lib.hid (fun (w1 : World) (hb : Below w.heap.size w w1) => valid_any q A2 c2 w1 (h2.up hb))
 have K3 := Lib.hid (fun (w1 : World) (hb : Below w.heap.size w w1) => contains_any p q A1 A2 c1 c2 w1 (h1.up hb) (h2.up hb))
 clear h1 h2
 unfold ctB
 go_enter Tryz.func70, Tryz.ntmps70
 go_wp2_with fail; refine (K1.out _ (by exact bel)).mono ?_; rintro e w1 ⟨rfl, hb1⟩; obtain ⟨hc1, hf1, hz1, hlt1, hle1⟩ := cellsIf hb1 (by (try simp); exact rfl)
 cases e1 : vaB p
 ·go_wp2
  go_ret
  exact ⟨bool_ret (by rw [e1]; rfl), by exact bel⟩
 ·have H1 := Lib.hid (show Below w.heap.size w w1 from by exact bel)
  go_wp2_with fail; refine (K2.out _ (by exact H1.out)).mono ?_; rintro e w2 ⟨rfl, hb2⟩; obtain ⟨hc2, hf2, hz2, hlt2, hle2⟩ := cellsIf hb2 (by (try simp); exact rfl)
  have H2 := Lib.hid (show Below w.heap.size w w2 from H1.out.trans (hb2.mono H1.out.size))
  cases e2 : vaB q
  ·go_wp2
   go_ret
   exact ⟨bool_ret (by rw [e1, e2]; rfl), H2.out⟩
  ·go_wp2_with fail; refine (K3.out _ (by exact H2.out)).mono ?_; rintro e w3 ⟨rfl, hb3⟩; obtain ⟨hc3, hf3, hz3, hlt3, hle3⟩ := cellsIf hb3 (by (try simp); exact rfl)
   go_wp2
   go_ret
   exact ⟨bool_ret (by rw [e1, e2]; rfl), H2.out.trans (hb3.mono H2.out.size)⟩
end

section
open Go Go.RowKit
set_option linter.unusedVariables false

theorem cmpI_lib (x y : Int) : Lib.compareInt x y = cmpI x y := by unfold Lib.compareInt cmpI; rfl
theorem compare_any (x y : Int) (w : World) : Calls Tryz.prog 106 #[.int .i64 x, .int .i64 y] w fun e w' => e = .returned (.int .i64 (cmpI x y)) ∧ w' = w := by
 rw [← cmpI_lib]
 exact Tryz.cmp_Compare_int x y w

def orV (a b : Int) : Int := if a ≠ 0 then a else b
set_option maxHeartbeats 1000000 in
theorem or_any (a b : Int) (H : Nat) (w : World) (h0 : w.cell? ⟨H, 0, none⟩ = some (.int .i64 a)) (h1 : w.cell? ⟨H, 1, none⟩ = some (.int .i64 b)) :
  Calls Tryz.prog 105 #[.slice (some ⟨H, 0, none⟩) 2 2] w fun e w' => e = .returned (.int .i64 (orV a b)) ∧ w' = w := by
 have hor : orV a b = if a ≠ 0 then a else b := rfl
 rw [hor]
 clear hor
 go_enter Tryz.func105, Tryz.ntmps105
 go_wp2
 go_loopw [8] (fun i wr => ∃ k : Nat, i = .int .i64 k ∧ k ≤ 2 ∧ (1 ≤ k → a = 0) ∧ (2 ≤ k → b = 0) ∧ wr = w) (fun i _ => 2 - (intOf i).toNat)
 case atStart => exact ⟨0, rfl, by omega, fun h => absurd h (by omega), fun h => absurd h (by omega), rfl⟩
 case round =>
  obtain ⟨k, rfl, hk, ha, hb, rfl⟩ := hrel
  have hk3 : k = 0 ∨ k = 1 ∨ k = 2 := by omega
  rcases hk3 with rfl | rfl | rfl
  ·clear ha hb
   by_cases q : a = 0
   ·subst q
    go_wp2
    go_roundw
    case rel => exact ⟨1, by go_num, by omega, (fun _ => by first | rfl | trivial), fun h => absurd h (by omega), (by first | rfl | trivial)⟩
    case measure => simp [intOf]
   ·go_wp2
    go_ret
    exact ⟨ret_int (by first | rfl | rw [if_pos q] | simp [q]), rfl⟩
  ·have ha' := ha (by omega)
   clear ha hb
   subst ha'
   by_cases q : b = 0
   ·subst q
    go_wp2
    go_roundw
    case rel => exact ⟨2, by go_num, by omega, (fun _ => by first | rfl | trivial), (fun _ => by first | rfl | trivial), (by first | rfl | trivial)⟩
    case measure => simp [intOf]
   ·go_wp2
    go_ret
    exact ⟨ret_int (by simp), rfl⟩
  ·have ha' := ha (by omega)
   have hb' := hb (by omega)
   clear ha hb
   subst ha' hb'
   go_wp2
   go_ret
   exact ⟨ret_int (by simp), rfl⟩
/-- The comparison of two facts, as a closure of the sort. -/
def GrowsTo (w w' : World) : Prop := ∃ q os, w' = Sort.grow (w.drewN q) os
theorem GrowsTo.refl (w : World) : GrowsTo w w := ⟨0, #[], by rw [Sort.grow_empty]; rfl⟩
theorem GrowsTo.alloc {w w' : World} (h : GrowsTo w w') (o : Obj) : GrowsTo w (w'.alloc o) := by
 obtain ⟨q, os, rfl⟩ := h
 exact ⟨q, os ++ #[o], by rw [Sort.alloc_eq_grow, Sort.grow_grow]⟩
theorem GrowsTo.drew {w w' : World} (h : GrowsTo w w') : GrowsTo w w'.drew := by
 obtain ⟨q, os, rfl⟩ := h
 exact ⟨q + 1, os, by rw [Sort.drew_grow, ← World.drewN_drewN]; rfl⟩
theorem GrowsTo.trans {w w' w'' : World} (h : GrowsTo w w') (k : GrowsTo w' w'') : GrowsTo w w'' := by
 obtain ⟨q, os, rfl⟩ := h
 obtain ⟨r, ps, rfl⟩ := k
 refine ⟨q + r, os ++ ps, ?_⟩
 rw [← World.drewN_drewN, ← Sort.grow_grow]
 rfl
theorem GrowsTo.below {w w' : World} (h : GrowsTo w w') : Below w.heap.size w w' := by
 obtain ⟨q, os, rfl⟩ := h
 have := below_dN (Below.refl w.heap.size w) q
 refine ⟨this.os, this.tape, this.output, by rw [Sort.size_grow]; exact Nat.le_trans this.size (Nat.le_add_right _ _), fun k hk => ?_⟩
 rw [Sort.heap_grow_old _ _ (Nat.lt_of_lt_of_le hk this.size)]
 exact this.block k hk

set_option maxRecDepth 20000 in
set_option maxHeartbeats 4000000 in
theorem makeClo_any (x y : Fct) (w : World) :
  Calls Tryz.prog 166 #[.agg #[.int .i64 x.1, .int .i64 x.2], .agg #[.int .i64 y.1, .int .i64 y.2]] w fun e w' => e = .returned (.int .i64 (cmpF x y)) ∧ GrowsTo w w' := by
 obtain ⟨x1, x2⟩ := x
 obtain ⟨y1, y2⟩ := y
 dsimp only
 have hcf : cmpF (x1, x2) (y1, y2) = orV (cmpI x1 y1) (cmpI x2 y2) := rfl
 rw [hcf]
 clear hcf
 have KC := Lib.hid compare_any
 obtain ⟨W2, hW2⟩ : ∃ W2, W2 = (w.alloc (.cells #[.int .i64 x1, .int .i64 x2] 68)).alloc (.cells #[.int .i64 y1, .int .i64 y2] 68) := ⟨_, rfl⟩
 have hx := Lib.hid (show BxI W2 w.heap.size 68 #[.int .i64 x1, .int .i64 x2] by rw [hW2]; exact (BxI.new w _ _).up ((Below.refl _ _).alloc (Nat.le_refl _) _))
 have hy := Lib.hid (show BxI W2 (w.heap.size + 1) 68 #[.int .i64 y1, .int .i64 y2] by rw [hW2]; exact BxI.new2 w _ _ _)
 have HS := Lib.hid (fun (W : World) (k : Below W2.heap.size W2 W) => (show W.cell? ⟨w.heap.size, 0, none⟩ = some (.int .i64 x1) ∧ W.cell? ⟨w.heap.size, 1, none⟩ = some (.int .i64 x2) ∧ W.cell? ⟨w.heap.size + 1, 0, none⟩ = some (.int .i64 y1) ∧ W.cell? ⟨w.heap.size + 1, 1, none⟩ = some (.int .i64 y2) from
  ⟨(hx.out.up k).cell 0 _ rfl, (hx.out.up k).cell 1 _ rfl, (hy.out.up k).cell 0 _ rfl, (hy.out.up k).cell 1 _ rfl⟩))
 obtain ⟨c1, hc1⟩ : ∃ c1, c1 = cmpI x1 y1 := ⟨_, rfl⟩
 obtain ⟨c2, hc2⟩ : ∃ c2, c2 = cmpI x2 y2 := ⟨_, rfl⟩
 have KC1 := Lib.hid (fun W => hc1 ▸ KC.out x1 y1 W)
 have KC2 := Lib.hid (fun W => hc2 ▸ KC.out x2 y2 W)
 rw [← hc1, ← hc2]
 clear hc1 hc2
 have HW2 := Lib.hid hW2
 have KO := Lib.hid (or_any c1 c2 W2.heap.size (W2.alloc (.cells #[.int .i64 c1, .int .i64 c2] 3)).drew ((BxI.new W2 3 #[.int .i64 c1, .int .i64 c2]).cell 0 _ rfl) ((BxI.new W2 3 #[.int .i64 c1, .int .i64 c2]).cell 1 _ rfl))
 go_enter Tryz.func166, Tryz.ntmps166
 go_wp2
 rw [← hW2]
 clear hW2
 refine wp_region_G 9 (fun w' => w'.cell? ⟨w.heap.size, 0, none⟩ = some (.int .i64 x1) ∧ w'.cell? ⟨w.heap.size, 1, none⟩ = some (.int .i64 x2) ∧ w'.cell? ⟨w.heap.size + 1, 0, none⟩ = some (.int .i64 y1) ∧ w'.cell? ⟨w.heap.size + 1, 1, none⟩ = some (.int .i64 y2)) (by kernel_rfl) (HS.out _ (by exact bel)) ?_
 intro hG0
 refine wpS1 0 hG0 ?_; intro hG1; clear hG0
 refine wpS2 1 hG1 ?_; intro hG2; clear hG1
 refine wpS1 2 hG2 ?_; intro hG3; clear hG2
 refine wpS2 3 hG3 ?_; intro hG4; clear hG3
 refine wpS1 5 hG4 ?_; intro hG5; clear hG4
 refine wpS2 6 hG5 ?_; intro hG6; clear hG5
 refine wpS1 7 hG6 ?_; intro hG7; clear hG6
 refine wpS2 8 hG7 ?_; intro hG8; clear hG7
 refine wpAnyG_ready (rs := [4]) (by kernel_rfl) (by simp) (AllG.cons rfl hG8 (fun K hK => ?_) AllG.nil)
 (go_simp; go_at_call 106; refine (KC1.out _).mono ?_; rintro e w4 ⟨rfl, rfl⟩)
 refine hK.out _ _ (Or.inr (HS.out _ (by exact bel))) (fun hG9 => wpN ?_); clear hK hG8
 refine wpAnyG_ready (rs := [9]) (by kernel_rfl) (by simp) (AllG.cons rfl hG9 (fun K hK => ?_) AllG.nil)
 (go_simp; go_at_call 106; refine (KC2.out _).mono ?_; rintro e w9 ⟨rfl, rfl⟩)
 refine hK.out _ _ (Or.inl rfl) (fun hG10 => wpN ?_); clear hK hG9
 refine wpAnyG_ready (rs := [10]) (by kernel_rfl) (by simp) (AllG.cons rfl hG10 (fun K hK => ?_) AllG.nil)
 (go_simp)
 refine hK.out _ _ (Or.inl rfl) (fun hG11 => wpN ?_); clear hK hG10
 refine wpAnyG_ready (rs := [11]) (by kernel_rfl) (by simp) (AllG.cons rfl hG11 (fun K hK => ?_) AllG.nil)
 (go_simp; go_at_call 105; refine KO.out.mono ?_; rintro e w11 ⟨rfl, rfl⟩)
 refine hK.out _ _ (Or.inl rfl) (fun hG12 => wpN ?_); clear hK hG11
 refine wpS1 12 hG12 ?_; intro hG13; clear hG12
 refine wpAnyG_done (by kernel_rfl) ?_ _; clear hG13
 all_goals (go_wp2; refine bodyPost_ret (v := .int .i64 (orV c1 c2)) (by simp [results, Tryz.results166, go_sem]) rfl ⟨rfl, ?_⟩; rw [HW2.out]; first | exact ((((GrowsTo.refl _).alloc _).alloc _).alloc _).drew | exact ((((GrowsTo.refl _).alloc _).alloc _).drew.alloc _))

set_option maxRecDepth 20000 in
set_option maxHeartbeats 4000000 in
theorem cmpClo_any (x y : Fct) (w : World) :
  Calls Tryz.prog 104 #[.agg #[.int .i64 x.1, .int .i64 x.2], .agg #[.int .i64 y.1, .int .i64 y.2]] w fun e w' => e = .returned (.int .i64 (cmpF x y)) ∧ GrowsTo w w' := by
 obtain ⟨x1, x2⟩ := x
 obtain ⟨y1, y2⟩ := y
 dsimp only
 have hcf : cmpF (x1, x2) (y1, y2) = orV (cmpI x1 y1) (cmpI x2 y2) := rfl
 rw [hcf]
 clear hcf
 have KC := Lib.hid compare_any
 obtain ⟨W2, hW2⟩ : ∃ W2, W2 = (w.alloc (.cells #[.int .i64 x1, .int .i64 x2] 68)).alloc (.cells #[.int .i64 y1, .int .i64 y2] 68) := ⟨_, rfl⟩
 have hx := Lib.hid (show BxI W2 w.heap.size 68 #[.int .i64 x1, .int .i64 x2] by rw [hW2]; exact (BxI.new w _ _).up ((Below.refl _ _).alloc (Nat.le_refl _) _))
 have hy := Lib.hid (show BxI W2 (w.heap.size + 1) 68 #[.int .i64 y1, .int .i64 y2] by rw [hW2]; exact BxI.new2 w _ _ _)
 have HS := Lib.hid (fun (W : World) (k : Below W2.heap.size W2 W) => (show W.cell? ⟨w.heap.size, 0, none⟩ = some (.int .i64 x1) ∧ W.cell? ⟨w.heap.size, 1, none⟩ = some (.int .i64 x2) ∧ W.cell? ⟨w.heap.size + 1, 0, none⟩ = some (.int .i64 y1) ∧ W.cell? ⟨w.heap.size + 1, 1, none⟩ = some (.int .i64 y2) from
  ⟨(hx.out.up k).cell 0 _ rfl, (hx.out.up k).cell 1 _ rfl, (hy.out.up k).cell 0 _ rfl, (hy.out.up k).cell 1 _ rfl⟩))
 obtain ⟨c1, hc1⟩ : ∃ c1, c1 = cmpI x1 y1 := ⟨_, rfl⟩
 obtain ⟨c2, hc2⟩ : ∃ c2, c2 = cmpI x2 y2 := ⟨_, rfl⟩
 have KC1 := Lib.hid (fun W => hc1 ▸ KC.out x1 y1 W)
 have KC2 := Lib.hid (fun W => hc2 ▸ KC.out x2 y2 W)
 rw [← hc1, ← hc2]
 clear hc1 hc2
 have HW2 := Lib.hid hW2
 have KO := Lib.hid (or_any c1 c2 W2.heap.size (W2.alloc (.cells #[.int .i64 c1, .int .i64 c2] 3)).drew ((BxI.new W2 3 #[.int .i64 c1, .int .i64 c2]).cell 0 _ rfl) ((BxI.new W2 3 #[.int .i64 c1, .int .i64 c2]).cell 1 _ rfl))
 go_enter Tryz.func104, Tryz.ntmps104
 go_wp2
 rw [← hW2]
 clear hW2
 refine wp_region_G 9 (fun w' => w'.cell? ⟨w.heap.size, 0, none⟩ = some (.int .i64 x1) ∧ w'.cell? ⟨w.heap.size, 1, none⟩ = some (.int .i64 x2) ∧ w'.cell? ⟨w.heap.size + 1, 0, none⟩ = some (.int .i64 y1) ∧ w'.cell? ⟨w.heap.size + 1, 1, none⟩ = some (.int .i64 y2)) (by kernel_rfl) (HS.out _ (by exact bel)) ?_
 intro hG0
 refine wpS1 0 hG0 ?_; intro hG1; clear hG0
 refine wpS2 1 hG1 ?_; intro hG2; clear hG1
 refine wpS1 2 hG2 ?_; intro hG3; clear hG2
 refine wpS2 3 hG3 ?_; intro hG4; clear hG3
 refine wpS1 5 hG4 ?_; intro hG5; clear hG4
 refine wpS2 6 hG5 ?_; intro hG6; clear hG5
 refine wpS1 7 hG6 ?_; intro hG7; clear hG6
 refine wpS2 8 hG7 ?_; intro hG8; clear hG7
 refine wpAnyG_ready (rs := [4]) (by kernel_rfl) (by simp) (AllG.cons rfl hG8 (fun K hK => ?_) AllG.nil)
 (go_simp; go_at_call 106; refine (KC1.out _).mono ?_; rintro e w4 ⟨rfl, rfl⟩)
 refine hK.out _ _ (Or.inr (HS.out _ (by exact bel))) (fun hG9 => wpN ?_); clear hK hG8
 refine wpAnyG_ready (rs := [9]) (by kernel_rfl) (by simp) (AllG.cons rfl hG9 (fun K hK => ?_) AllG.nil)
 (go_simp; go_at_call 106; refine (KC2.out _).mono ?_; rintro e w9 ⟨rfl, rfl⟩)
 refine hK.out _ _ (Or.inl rfl) (fun hG10 => wpN ?_); clear hK hG9
 refine wpAnyG_ready (rs := [10]) (by kernel_rfl) (by simp) (AllG.cons rfl hG10 (fun K hK => ?_) AllG.nil)
 (go_simp)
 refine hK.out _ _ (Or.inl rfl) (fun hG11 => wpN ?_); clear hK hG10
 refine wpAnyG_ready (rs := [11]) (by kernel_rfl) (by simp) (AllG.cons rfl hG11 (fun K hK => ?_) AllG.nil)
 (go_simp; go_at_call 105; refine KO.out.mono ?_; rintro e w11 ⟨rfl, rfl⟩)
 refine hK.out _ _ (Or.inl rfl) (fun hG12 => wpN ?_); clear hK hG11
 refine wpS1 12 hG12 ?_; intro hG13; clear hG12
 refine wpAnyG_done (by kernel_rfl) ?_ _; clear hG13
 all_goals (go_wp2; refine bodyPost_ret (v := .int .i64 (orV c1 c2)) (by simp [results, Tryz.results104, go_sem]) rfl ⟨rfl, ?_⟩; rw [HW2.out]; first | exact ((((GrowsTo.refl _).alloc _).alloc _).alloc _).drew | exact ((((GrowsTo.refl _).alloc _).alloc _).drew.alloc _))
end

section
open Go Go.RowKit
set_option linter.unusedVariables false

/-- A row of m elements with these cells. -/
def RowX (w : World) (L : Nat) (A : Option Addr) (m : Nat) (xs : List Value) : Prop := 0 < m → ∃ b off, A = some ⟨b, off, none⟩ ∧ b < L ∧ ∀ (j : Nat) (u : Value), xs[j]? = some u → w.cell? ⟨b, off + j, none⟩ = some u
theorem RowX.keep {w w' : World} {L L' : Nat} {A : Option Addr} {m : Nat} {xs : List Value} (h : RowX w L A m xs) (k : Below L w w') (hl : L ≤ L') : RowX w' L' A m xs := fun h0 => by
 obtain ⟨b, off, e, hb, hc⟩ := h h0
 exact ⟨b, off, e, Nat.lt_of_lt_of_le hb hl, fun j u hj => (k.cell (p := ⟨b, _, none⟩) hb).trans (hc j u hj)⟩

theorem qinfI : (Tryz.prog.info? 3).map (fun i => (i.zero, i.size, i.bytes)) = some (some (.int .i64 0), 1, 8) := by kernel_rfl
theorem qundI : Tryz.prog.underlying 22 = some (.slice 3) := by kernel_rfl
set_option maxRecDepth 4000 in
set_option maxHeartbeats 1000000 in
theorem cloneI_any (xs : List Value) (m : Nat) (A : Option Addr) (c : Nat) (w : World) (h : RowX w w.heap.size A m xs) (hx : xs.length = m * 1) (h1 : ∀ u ∈ xs, u.oneCell' = true) (hm : m ≤ 1000000) :
  Calls Tryz.prog 58 #[.slice A m c] w fun e w' => (∃ v, e = .returned v ∧ w'.ownsRow w.heap.size 3 1 v m xs) ∧ Below w.heap.size w w' := by
 obtain ⟨inf, hi, hz0, hz1, hz2⟩ := info_parts qinfI
 have hA : A = none → m = 0 := fun e => by
  rcases Nat.eq_zero_or_pos m with h0 | h0
  ·exact h0
  ·obtain ⟨b, off, e2, _⟩ := h h0; rw [e] at e2; cases e2
 cases A with
 | none =>
  obtain rfl := hA rfl
  obtain rfl : xs = [] := List.length_eq_zero_iff.1 (by omega)
  have heq : ∀ w', (binOp .eql 22 (.slice none 0 c) (.slice none 0 0)).run Tryz.prog w' = .ok (.bool true) w' := fun w' => Lib.run_eql_slice_nil_nil w' _ c qundI
  go_enter Tryz.func58, Tryz.ntmps58
  go_wp2
  go_ret
  exact ⟨⟨_, rfl, World.ownsRow_nil _ _ _ _⟩, by exact bel⟩
 | some ad =>
  have hcells : ∀ (j : Nat) (u : Value), xs[j]? = some u → w.cell? (ad.add j) = some u := fun j u hj => by
   have hlt : j < xs.length := (List.getElem?_eq_some_iff.1 hj).1
   obtain ⟨b, off, e2, _, hc⟩ := h (by omega)
   cases e2
   have := hc j u hj
   simp [Addr.add]
   split
   ·rename_i h0; subst h0; simpa using this
   ·simpa using this
  have hlt : ∀ j, j < xs.length → (ad.add j).block < w.heap.size := fun j hj => by
   obtain ⟨b, off, e2, hb, _⟩ := h (by omega)
   cases e2
   simp [Addr.add]; split <;> exact hb
  have Hn := Lib.hid (show ∀ (o : Obj) (j : Nat) (u : Value), xs[j]? = some u → (w.alloc o).cell? (ad.add j) = some u from fun o j u hj =>
   (((Below.refl w.heap.size w).alloc (Nat.le_refl _) o).cell (hlt j (List.getElem?_eq_some_iff.1 hj).1)).trans (hcells j u hj))
  have H1 := Lib.hid h1
  clear hcells hlt hA h1
  have heq : ∀ w', (binOp .eql 22 (.slice (some ad) m c) (.slice none 0 0)).run Tryz.prog w' = .ok (.bool false) w' := fun w' => Lib.run_eql_slice_some_nil w' ad _ c qundI
  go_enter Tryz.func58, Tryz.ntmps58
  go_wp2_with (at_builtin; refine wpList_append_own _ rfl _ _ 22 rfl w.heap.size 3 inf (.int .i64 0) 1 8 qundI hi hz0 hz1 hz2 rfl (by decide) _ 0 [] rfl (World.ownsRow_made w #[] 0 (Nat.le_refl _) (by simp [maxLen]) rfl) ad m c xs rfl hx (Hn.out _) H1.out (by unfold maxLen; omega) (by omega) (by simp) ?_; intro v' w1 hown' hgrow _; simp only [Nat.zero_add, List.nil_append] at hown'; have hb1 : Below w.heap.size w w1 := grown_below2 (s := 1) (Below.alloc (Below.refl _ _) (Nat.le_refl _) _) (Nat.le_refl _) (World.ownsRow_made w #[] 0 (Nat.le_refl _) (by simp [maxLen]) rfl) hgrow; have Hown := Lib.hid hown'; clear hgrow hown')
  go_ret
  exact ⟨⟨_, rfl, Hown.out⟩, hb1⟩

theorem qinfF : (Tryz.prog.info? 68).map (fun i => (i.zero, i.size, i.bytes)) = some (some (.agg #[.int .i64 0, .int .i64 0]), 2, 16) := by kernel_rfl
theorem qundF : Tryz.prog.underlying 23 = some (.slice 68) := by kernel_rfl
set_option maxRecDepth 4000 in
set_option maxHeartbeats 1000000 in
theorem cloneF_any (xs : List Value) (m : Nat) (A : Option Addr) (c : Nat) (w : World) (h : RowX w w.heap.size A m xs) (hx : xs.length = m * 2) (h1 : ∀ u ∈ xs, u.oneCell' = true) (hm : m ≤ 1000000) :
  Calls Tryz.prog 33 #[.slice A m c] w fun e w' => (∃ v, e = .returned v ∧ w'.ownsRow w.heap.size 68 2 v m xs) ∧ Below w.heap.size w w' := by
 obtain ⟨inf, hi, hz0, hz1, hz2⟩ := info_parts qinfF
 have hA : A = none → m = 0 := fun e => by
  rcases Nat.eq_zero_or_pos m with h0 | h0
  ·exact h0
  ·obtain ⟨b, off, e2, _⟩ := h h0; rw [e] at e2; cases e2
 cases A with
 | none =>
  obtain rfl := hA rfl
  obtain rfl : xs = [] := List.length_eq_zero_iff.1 (by omega)
  have heq : ∀ w', (binOp .eql 23 (.slice none 0 c) (.slice none 0 0)).run Tryz.prog w' = .ok (.bool true) w' := fun w' => Lib.run_eql_slice_nil_nil w' _ c qundF
  go_enter Tryz.func33, Tryz.ntmps33
  go_wp2
  go_ret
  exact ⟨⟨_, rfl, World.ownsRow_nil _ _ _ _⟩, by exact bel⟩
 | some ad =>
  have hcells : ∀ (j : Nat) (u : Value), xs[j]? = some u → w.cell? (ad.add j) = some u := fun j u hj => by
   have hlt : j < xs.length := (List.getElem?_eq_some_iff.1 hj).1
   obtain ⟨b, off, e2, _, hc⟩ := h (by omega)
   cases e2
   have := hc j u hj
   simp [Addr.add]
   split
   ·rename_i h0; subst h0; simpa using this
   ·simpa using this
  have hlt : ∀ j, j < xs.length → (ad.add j).block < w.heap.size := fun j hj => by
   obtain ⟨b, off, e2, hb, _⟩ := h (by omega)
   cases e2
   simp [Addr.add]; split <;> exact hb
  have Hn := Lib.hid (show ∀ (o : Obj) (j : Nat) (u : Value), xs[j]? = some u → (w.alloc o).cell? (ad.add j) = some u from fun o j u hj =>
   (((Below.refl w.heap.size w).alloc (Nat.le_refl _) o).cell (hlt j (List.getElem?_eq_some_iff.1 hj).1)).trans (hcells j u hj))
  have H1 := Lib.hid h1
  clear hcells hlt hA h1
  have heq : ∀ w', (binOp .eql 23 (.slice (some ad) m c) (.slice none 0 0)).run Tryz.prog w' = .ok (.bool false) w' := fun w' => Lib.run_eql_slice_some_nil w' ad _ c qundF
  go_enter Tryz.func33, Tryz.ntmps33
  go_wp2_with (at_builtin; refine wpList_append_own _ rfl _ _ 23 rfl w.heap.size 68 inf (.agg #[.int .i64 0, .int .i64 0]) 2 16 qundF hi hz0 hz1 hz2 rfl (by decide) _ 0 [] rfl (World.ownsRow_made w #[] 0 (Nat.le_refl _) (by simp [maxLen]) rfl) ad m c xs rfl hx (Hn.out _) H1.out (by unfold maxLen; omega) (by omega) (by simp) ?_; intro v' w1 hown' hgrow _; simp only [Nat.zero_add, List.nil_append] at hown'; have hb1 : Below w.heap.size w w1 := grown_below2 (s := 2) (Below.alloc (Below.refl _ _) (Nat.le_refl _) _) (Nat.le_refl _) (World.ownsRow_made w #[] 0 (Nat.le_refl _) (by simp [maxLen]) rfl) hgrow; have Hown := Lib.hid hown'; clear hgrow hown')
  go_ret
  exact ⟨⟨_, rfl, Hown.out⟩, hb1⟩

/-- The cells of facts. -/
def fcs (p : List Fct) : List Value := p.flatMap fun x => [.int .i64 x.1, .int .i64 x.2]
theorem fcs_cons (x : Fct) (r : List Fct) : fcs (x :: r) = [.int .i64 x.1, .int .i64 x.2] ++ fcs r := rfl
theorem fcs_app (a b : List Fct) : fcs (a ++ b) = fcs a ++ fcs b := by unfold fcs; rw [List.flatMap_append]
theorem fcs_len : ∀ p : List Fct, (fcs p).length = p.length * 2
 | [] => rfl
 | x :: r => by rw [fcs_cons, List.length_append, fcs_len r]; simp; omega
theorem fcs_one (p : List Fct) : ∀ u ∈ fcs p, u.oneCell' = true := by
 intro u hu
 unfold fcs at hu
 rw [List.mem_flatMap] at hu
 obtain ⟨x, _, hx⟩ := hu
 simp at hx
 rcases hx with rfl | rfl <;> rfl
theorem fcs_get : ∀ (p : List Fct) (k : Nat), k < p.length → (fcs p)[k * 2]? = some (.int .i64 (fv p k)) ∧ (fcs p)[k * 2 + 1]? = some (.int .i64 (fx p k))
 | x :: r, 0, _ => ⟨rfl, rfl⟩
 | x :: r, k + 1, h => by
  obtain ⟨h0, h1⟩ := fcs_get r k (by simpa using h)
  have g : ∀ j, (fcs (x :: r))[(k + 1) * 2 + j]? = (fcs r)[k * 2 + j]? := fun j => by
   rw [fcs_cons, List.getElem?_append_right (by simp; omega)]
   congr 1
   simp
   omega
  exact ⟨(g 0).trans h0, (g 1).trans h1⟩
theorem fcs_take (p : List Fct) (i : Nat) : (fcs p).take (i * 2) = fcs (p.take i) := by
 induction p generalizing i with
 | nil => simp [fcs]
 | cons x r ih =>
  cases i with
  | zero => simp [fcs]
  | succ i =>
   rw [List.take_succ_cons, fcs_cons, fcs_cons, ← ih i, show (i + 1) * 2 = (i * 2 + 1) + 1 by omega]
   rfl
theorem fcs_drop (p : List Fct) (i : Nat) : (fcs p).drop (i * 2) = fcs (p.drop i) := by
 induction p generalizing i with
 | nil => simp [fcs]
 | cons x r ih =>
  cases i with
  | zero => simp [fcs]
  | succ i =>
   rw [List.drop_succ_cons, fcs_cons, ← ih i, show (i + 1) * 2 = (i * 2 + 1) + 1 by omega]
   rfl
/-- Each cell of facts is one of a fact. -/
theorem fcs_cell : ∀ (p : List Fct) (j : Nat) (u : Value), (fcs p)[j]? = some u → ∃ k, k < p.length ∧ ((j = k * 2 ∧ u = .int .i64 (fv p k)) ∨ (j = k * 2 + 1 ∧ u = .int .i64 (fx p k)))
 | p, j, u, h => by
  have hl : j < (fcs p).length := (List.getElem?_eq_some_iff.1 h).1
  rw [fcs_len] at hl
  refine ⟨j / 2, by omega, ?_⟩
  obtain ⟨h0, h1⟩ := fcs_get p (j / 2) (by omega)
  rcases Nat.mod_two_eq_zero_or_one j with e | e
  ·left
   refine ⟨by omega, ?_⟩
   rw [show j / 2 * 2 = j by omega, h] at h0
   exact Option.some.inj h0
  ·right
   refine ⟨by omega, ?_⟩
   rw [show j / 2 * 2 + 1 = j by omega, h] at h1
   exact Option.some.inj h1
theorem rowX_facts {w : World} {B : Nat} {A : Option Addr} {p : List Fct} (h : FactsAt w B A p) : RowX w B A p.length (fcs p) := fun h0 => by
 obtain ⟨b, off, e, hb, hc⟩ := h.2 h0
 refine ⟨b, off, e, hb, fun j u hj => ?_⟩
 obtain ⟨k, hk, h1 | h1⟩ := fcs_cell p j u hj
 ·rw [h1.1, h1.2]; exact (hc k hk).1
 ·rw [h1.1, h1.2, ← Nat.add_assoc]; exact (hc k hk).2
/-- A row of the call's own of facts. -/
theorem own_facV {w : World} {B : Nat} {v : Value} {p : List Fct} {bad : Nat → Prop} (h : w.ownsRow B 68 2 v p.length (fcs p)) (hl : p.length ≤ 140737488355328) (hb : ∀ g, v.ownBlock = some g → ¬ bad g) :
  ∃ A c, v = .slice A p.length c ∧ Fac w bad A p := by
 rcases h.2 with ⟨rfl, h0⟩ | ⟨g, cap, cur, rfl, hB, hg, hnc, hcm, hcs, htk⟩
 ·have : p = [] := List.length_eq_zero_iff.1 h0
  subst this
  exact ⟨none, 0, rfl, fac_nil _ _ _⟩
 ·refine ⟨some ⟨g, 0, none⟩, cap, rfl, hl, fun h0 => ⟨g, 0, rfl, (Array.getElem?_eq_some_iff.1 hg).1, hb g rfl, fun k hk => ?_⟩⟩
  obtain ⟨h1, h2⟩ := fcs_get p k hk
  rw [Nat.zero_add]
  exact ⟨own_cell h h1, own_cell h h2⟩
/-- slices.Clone of facts: new facts. -/
theorem cloneFac_any (p : List Fct) (A : Option Addr) (c : Nat) (w : World) (h : FactsAt w w.heap.size A p) (hl : p.length ≤ 1000000) :
  Calls Tryz.prog 33 #[.slice A p.length c] w fun e w' => (∃ A' c', e = .returned (.slice A' p.length c') ∧ w'.ownsRow w.heap.size 68 2 (.slice A' p.length c') p.length (fcs p)) ∧ Below w.heap.size w w' :=
 (cloneF_any (fcs p) p.length A c w (rowX_facts h) (fcs_len p) (fcs_one p) hl).mono fun e w' ⟨⟨v, h1, h2⟩, h3⟩ => by
  obtain ⟨A', c', rfl⟩ := own_shape h2
  exact ⟨⟨A', c', h1, h2⟩, h3⟩
end

end Go.Proofs.YtlkebhiaimijiaaGreatDoor
