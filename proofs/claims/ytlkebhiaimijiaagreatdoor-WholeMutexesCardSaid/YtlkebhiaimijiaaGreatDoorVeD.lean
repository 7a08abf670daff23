/- certify.Lower: its memory. -/
import Derived.Test.YtlkebhiaimijiaaGreatDoorVeC
import Derived.Test.YtlkebhiaimijiaaGreatDoorNgP
namespace Go.Proofs.YtlkebhiaimijiaaGreatDoor
set_option linter.unusedSimpArgs false
set_option linter.unusedVariables false
open Go Go.RowKit
set_option linter.unusedVariables false

theorem sinfN : (Tryz.prog.info? 97).map (fun i => (i.zero, i.size, i.bytes)) = some (some (.agg #[.slice none 0 0, .int .i64 0]), 2, 32) := by kernel_rfl
theorem sundN : Tryz.prog.underlying 39 = some (.slice 97) := by kernel_rfl
def ngC (ns : List Ngd) : List Value := ns.flatMap fun n => [.slice n.a n.l.length n.c, .int .i64 n.d]
theorem ngC_app (a b : List Ngd) : ngC (a ++ b) = ngC a ++ ngC b := by unfold ngC; rw [List.flatMap_append]
theorem ngC_cons (n : Ngd) (r : List Ngd) : ngC (n :: r) = [.slice n.a n.l.length n.c, .int .i64 n.d] ++ ngC r := rfl
theorem ngC_one (n : Ngd) : ngC [n] = [.slice n.a n.l.length n.c, .int .i64 n.d] := rfl
theorem ngC_get : ∀ (ns : List Ngd) (i : Nat), i < ns.length → (ngC ns)[i * 2]? = some (.slice (ng ns i).a (ng ns i).l.length (ng ns i).c) ∧ (ngC ns)[i * 2 + 1]? = some (.int .i64 (ng ns i).d)
 | e :: r, 0, _ => ⟨rfl, rfl⟩
 | e :: r, i + 1, h => by
  obtain ⟨h0, h1⟩ := ngC_get r i (by simpa using h)
  have g : ∀ j, (ngC (e :: r))[(i + 1) * 2 + j]? = (ngC r)[i * 2 + j]? := fun j => by
   rw [ngC_cons, List.getElem?_append_right (by simp; omega)]
   congr 1
   simp
   omega
  exact ⟨(g 0).trans h0, (g 1).trans h1⟩
/-- A row of the call's own of nogoods as a slice that is read. -/
theorem nls_own {w : World} {B : Nat} {bad : Nat → Prop} {A : Option Addr} {c : Nat} {ns : List Ngd} (h : w.ownsRow B 97 2 (.slice A ns.length c) ns.length (ngC ns)) (hl : ns.length ≤ 1000000) (hb : ∀ g, (Value.slice A ns.length c).ownBlock = some g → ¬ bad g) (hf : ∀ n ∈ ns, Fac w bad n.a n.l) : Nls w bad A ns := by
 refine ⟨hl, fun hn => ?_, hf⟩
 rcases h.2 with ⟨_, h0⟩ | ⟨b, cap, cur, hv, hB, hg, _⟩
 ·omega
 ·injection hv with e1 e2 e3
  subst e1
  subst e3
  refine ⟨b, 0, rfl, (Array.getElem?_eq_some_iff.1 hg).1, hb b rfl, fun k hk => ?_⟩
  obtain ⟨g0, g1⟩ := ngC_get ns k hk
  rw [Nat.zero_add]
  exact ⟨own_cell h g0, own_cell h g1⟩
theorem own_slice {A : Option Addr} {n m c d : Nat} : (Value.slice A n c).ownBlock = (Value.slice A m d).ownBlock := by
 rcases A with _ | ⟨b, o, i⟩ <;> rfl

def LBad (R C9 H : Nat) (NV V : Value) (b : Nat) : Prop := b ≤ R ∨ b = C9 ∨ b = H ∨ NV.ownBlock = some b ∨ V.ownBlock = some b
structure LowM (t : Tsk) (p : Lies) (b : Int) (w : World) (C9 H : Nat) (NA : Option Addr) (nc : Nat) (ns : List Ngd) (A : Option Addr) (c : Nat) (es : List En) (wr : World) : Prop where
 bel : Below w.heap.size w wr
 tbx : BxI wr w.heap.size 26 #[.slice p.av t.vars.length p.cv, .slice p.ai t.init.length p.ci, .slice p.ag t.goal.length p.cg, .slice p.ao t.ops.length p.co]
 rbx : BxI wr (w.heap.size + 1) 41 #[.int .i64 0, .slice none 0 0]
 cbx : BxI wr C9 41 #[.int .i64 b, .slice NA ns.length nc]
 row : wr.ownsRow w.heap.size 97 2 (.slice NA ns.length nc) ns.length (ngC ns)
 hp : HpA wr w.heap.size H A c es
 nfac : ∀ n ∈ ns, Fac wr (LBad (w.heap.size + 1) C9 H (.slice NA ns.length nc) (.slice A es.length c)) n.a n.l
 efac : ∀ e ∈ es, Fac wr (LBad (w.heap.size + 1) C9 H (.slice NA ns.length nc) (.slice A es.length c)) e.fa e.facts
 c9 : w.heap.size + 1 < C9
 hc : C9 < H
section
variable {t : Tsk} {p : Lies} {b : Int} {w wr w1 w2 : World} {C9 H : Nat} {NA : Option Addr} {nc : Nat} {ns : List Ngd} {A A' : Option Addr} {c c' : Nat} {es es' : List En}
theorem LowM.up (h : LowM t p b w C9 H NA nc ns A c es wr) (k : Below wr.heap.size wr w1) : LowM t p b w C9 H NA nc ns A c es w1 :=
 ⟨h.bel.trans (k.mono h.bel.size), h.tbx.up k, h.rbx.up k, h.cbx.up k, own_below h.row k, h.hp.up k, fun n hn => (h.nfac n hn).up k, fun e he => (h.efac e he).up k, h.c9, h.hc⟩
theorem LowM.nls (h : LowM t p b w C9 H NA nc ns A c es wr) (hl : ns.length ≤ 1000000) : Nls wr (fun _ => False) NA ns :=
 nls_own h.row hl (fun _ _ h => h) (fun n hn => (h.nfac n hn).sub (fun _ _ h => h.elim))
theorem LowM.moves (h : LowM t p b w C9 H NA nc ns A c es wr) (k : Kb (fun b => b = H ∨ (Value.slice A es.length c).ownBlock = some b) wr w1)
  (hat : (Value.slice A' es'.length c').ownBlock = (Value.slice A es.length c).ownBlock ∨ ∃ g, wr.heap.size ≤ g ∧ (Value.slice A' es'.length c').ownBlock = some g) :
  Moves wr w1 (LBad (w.heap.size + 1) C9 H (.slice NA ns.length nc) (.slice A es.length c)) (LBad (w.heap.size + 1) C9 H (.slice NA ns.length nc) (.slice A' es'.length c')) :=
 ⟨k.size, fun q hq hn => k.block q hq (fun e => hn (e.elim (fun e => .inr (.inr (.inl e))) (fun e => .inr (.inr (.inr (.inr e)))))), fun q hq hb => by
  rcases hb with hb | hb | hb | hb | hb
  ·exact .inl hb
  ·exact .inr (.inl hb)
  ·exact .inr (.inr (.inl hb))
  ·exact .inr (.inr (.inr (.inl hb)))
  ·rcases hat with e | ⟨g, hg, e⟩
   ·exact .inr (.inr (.inr (.inr (by rw [← e]; exact hb))))
   ·rw [e] at hb; injection hb with hb; omega⟩
theorem LowM.heap (h : LowM t p b w C9 H NA nc ns A c es wr) (hh : HpA w1 w.heap.size H A' c' es') (k : Kb (fun b => b = H ∨ (Value.slice A es.length c).ownBlock = some b) wr w1)
  (hat : (Value.slice A' es'.length c').ownBlock = (Value.slice A es.length c).ownBlock ∨ ∃ g, wr.heap.size ≤ g ∧ (Value.slice A' es'.length c').ownBlock = some g)
  (hf : ∀ e ∈ es', Fac wr (LBad (w.heap.size + 1) C9 H (.slice NA ns.length nc) (.slice A es.length c)) e.fa e.facts) : LowM t p b w C9 H NA nc ns A' c' es' w1 := by
 have m := h.moves k hat
 have h9 := h.c9
 have hc := h.hc
 have nb : ∀ {X : Nat} {T : TypeId} {cs : Array Value}, BxI wr X T cs → T ≠ 88 → X ≠ H → ¬ (X = H ∨ (Value.slice A es.length c).ownBlock = some X) := fun hx hT hX e => e.elim hX (fun e => own_ne_bx h.hp.own hx hT e.symm)
 refine ⟨h.bel.trans (k.below (fun q hq e => ?_) h.bel.size), h.tbx.kb k (nb h.tbx (by decide) (by omega)), h.rbx.kb k (nb h.rbx (by decide) (by omega)), h.cbx.kb k (nb h.cbx (by decide) (by omega)), own_kb h.row k (fun g hg e => ?_), hh, fun n hn => (h.nfac n hn).move m, fun e he => (hf e he).move m, h9, hc⟩
 ·rcases e with e | e
  ·omega
  ·have := (h.hp.own.lt q e).1; omega
 ·rcases e with e | e
  ·subst e; exact own_ne_bx h.row h.hp.box (by decide) hg.symm
  ·rcases own_own_ne h.row h.hp.own (by decide) with e2 | e2
   ·rw [e2] at hg; cases hg
   ·exact e2 (hg.trans e.symm)
theorem LowM.addN {n : Ngd} {NA' : Option Addr} {nc' : Nat} (h : LowM t p b w C9 H NA nc ns A c es wr) (u : Below wr.heap.size wr w1) (ho : w2.ownsRow w.heap.size 97 2 (.slice NA' (ns.length + 1) nc') (ns.length + 1) (ngC ns ++ [.slice n.a n.l.length n.c, .int .i64 n.d]))
  (hg : w1.grownBy w2 (Value.slice NA ns.length nc).ownBlock) (hat : (Value.slice NA' (ns.length + 1) nc').ownBlock = (Value.slice NA ns.length nc).ownBlock ∨ (Value.slice NA' (ns.length + 1) nc').ownBlock = some w1.heap.size)
  (hf : Fac wr (LBad (w.heap.size + 1) C9 H (.slice NA ns.length nc) (.slice A es.length c)) n.a n.l) :
  LowM t p b w C9 H NA' nc' (ns ++ [n]) A c es (w2.setCell ⟨C9, 1, none⟩ (.slice NA' (ns.length + 1) nc')) ∧ Kb (fun b => b = C9 ∨ (Value.slice NA ns.length nc).ownBlock = some b) wr (w2.setCell ⟨C9, 1, none⟩ (.slice NA' (ns.length + 1) nc')) := by
 have h1 := h.up u
 have h9 := h.c9
 have hc := h.hc
 have hz := u.size
 have hbw := h.bel.size
 have hll : (ns ++ [n]).length = ns.length + 1 := by simp
 have k : Kb (fun b => b = C9 ∨ (Value.slice NA ns.length nc).ownBlock = some b) wr (w2.setCell ⟨C9, 1, none⟩ (.slice NA' (ns.length + 1) nc')) :=
  Kb.set (bad := fun b => b = C9 ∨ (Value.slice NA ns.length nc).ownBlock = some b) (p := ⟨C9, 1, none⟩) (((Kb.of_below u)).grown hg fun q hq => .inl (.inr hq)) (.inl (.inl rfl)) _
 have nb : ∀ {X : Nat} {T : TypeId} {cs : Array Value}, BxI wr X T cs → T ≠ 97 → X ≠ C9 → ¬ (X = C9 ∨ (Value.slice NA ns.length nc).ownBlock = some X) := fun hx hT hX e => e.elim hX (fun e => own_ne_bx h.row hx hT e.symm)
 have hCn : ∀ q, (Value.slice NA' (ns.length + 1) nc').ownBlock = some q → q ≠ C9 := fun q hq e => by
  rcases hat with e2 | e2
  ·rw [e2] at hq; subst e; exact own_ne_bx h.row h.cbx (by decide) hq.symm
  ·rw [e2] at hq; injection hq with hq; have := h.cbx.lt; omega
 have m : Moves wr (w2.setCell ⟨C9, 1, none⟩ (.slice NA' (ns.length + 1) nc')) (LBad (w.heap.size + 1) C9 H (.slice NA ns.length nc) (.slice A es.length c)) (LBad (w.heap.size + 1) C9 H (.slice NA' (ns.length + 1) nc') (.slice A es.length c)) :=
  ⟨k.size, fun q hq hn => k.block q hq (fun e => hn (e.elim (fun e => .inr (.inl e)) (fun e => .inr (.inr (.inr (.inl e)))))), fun q hq hb => by
   rcases hb with hb | hb | hb | hb | hb
   ·exact .inl hb
   ·exact .inr (.inl hb)
   ·exact .inr (.inr (.inl hb))
   ·rcases hat with e | e
    ·exact .inr (.inr (.inr (.inl (by rw [← e]; exact hb))))
    ·rw [e] at hb; injection hb with hb; omega
   ·exact .inr (.inr (.inr (.inr hb)))⟩
 refine ⟨?_, k⟩
 have cb2 : BxI w2 C9 41 #[.int .i64 b, .slice NA ns.length nc] := BxI.grown h1.cbx hg (own_ne_bx h1.row h1.cbx (by decide))
 constructor
 ·exact h.bel.trans (k.below (fun q hq e => by
   rcases e with e | e
   ·omega
   ·have := (h.row.lt q e).1; omega) hbw)
 ·exact h.tbx.kb k (nb h.tbx (by decide) (by omega))
 ·exact h.rbx.kb k (nb h.rbx (by decide) (by omega))
 ·rw [hll]; exact cb2.set 1 _
 ·rw [hll, ngC_app, ngC_one]
  exact own_set' ho (fun e => hCn _ e rfl)
 ·refine ⟨h.hp.box.kb k (nb h.hp.box (by decide) (by omega)), own_kb h.hp.own k (fun g hg2 e => ?_)⟩
  rcases e with e | e
  ·subst e; exact own_ne_bx h.hp.own h.cbx (by decide) hg2.symm
  ·rcases own_own_ne h.hp.own h.row (by decide) with e2 | e2
   ·rw [e2] at hg2; cases hg2
   ·exact e2 (hg2.trans e.symm)
 ·intro y hy
  rw [hll]
  rcases List.mem_append.1 hy with hy | hy
  ·exact (h.nfac y hy).move m
  ·simp at hy; subst hy; exact hf.move m
 ·intro e he
  rw [hll]
  exact (h.efac e he).move m
 ·exact h9
 ·exact hc
end
/-- The result's cell written. -/
theorem ret_cells {w : World} {R : Nat} {T : TypeId} {x y u v : Value} (h : BxI w R T #[x, y]) : ((w.setCell ⟨R, 0, none⟩ u).setCell ⟨R, 1, none⟩ v).cell? ⟨R, 0, none⟩ = some u ∧ ((w.setCell ⟨R, 0, none⟩ u).setCell ⟨R, 1, none⟩ v).cell? ⟨R, 1, none⟩ = some v :=
 have h2 := (h.set 0 u).set 1 v
 ⟨h2.cell 0 u rfl, h2.cell 1 v rfl⟩
theorem ret_below {B R : Nat} {w w' : World} {u v : Value} (h : Below B w w') (hR : B ≤ R) : Below B w ((w'.setCell ⟨R, 0, none⟩ u).setCell ⟨R, 1, none⟩ v) := (h.setCell hR _).setCell hR _
theorem LowM.ret {t : Tsk} {p : Lies} {b : Int} {w wr : World} {C9 H : Nat} {NA : Option Addr} {nc : Nat} {ns : List Ngd} {A : Option Addr} {c : Nat} {es : List En} {u v : Value} (h : LowM t p b w C9 H NA nc ns A c es wr) (hl : ns.length ≤ 1000000) :
  Nls ((wr.setCell ⟨w.heap.size + 1, 0, none⟩ u).setCell ⟨w.heap.size + 1, 1, none⟩ v) (fun _ => False) NA ns := by
 have hne : (Value.slice NA ns.length nc).ownBlock ≠ some (w.heap.size + 1) := fun e => own_ne_bx h.row h.rbx (by decide) e.symm
 refine nls_own (own_set' (own_set' h.row hne) hne) hl (fun _ _ h => h) fun n hn => ?_
 have hf := (h.nfac n hn).sub (bad' := fun b => b = w.heap.size + 1) (fun b _ hb => .inl (by rw [hb]; exact Nat.le_refl _))
 have m1 : Moves wr (wr.setCell ⟨w.heap.size + 1, 0, none⟩ u) (fun b => b = w.heap.size + 1) (fun b => b = w.heap.size + 1) := Moves.set (bad := fun b => b = w.heap.size + 1) (p := ⟨w.heap.size + 1, 0, none⟩) u rfl
 have m2 : Moves (wr.setCell ⟨w.heap.size + 1, 0, none⟩ u) ((wr.setCell ⟨w.heap.size + 1, 0, none⟩ u).setCell ⟨w.heap.size + 1, 1, none⟩ v) (fun b => b = w.heap.size + 1) (fun b => b = w.heap.size + 1) := Moves.set (bad := fun b => b = w.heap.size + 1) (p := ⟨w.heap.size + 1, 1, none⟩) v rfl
 exact ((hf.move m1).move m2).sub (fun _ _ h => h.elim)

set_option maxHeartbeats 4000000 in
theorem bounded_any (n : Int) (w : World) (h0 : -1 ≤ n) (h1 : n ≤ 1099511627776) : Calls Tryz.prog 32 #[.int .i64 n] w fun e w' => e = .returned (.bool true) ∧ w' = w := by
 go_enter Tryz.func32, Tryz.ntmps32
 have e0 : decide (-1 ≤ n) = true := decide_eq_true h0
 have e1 : decide (n ≤ 1099511627776) = true := decide_eq_true h1
 go_wp2
 go_ret
 exact ⟨rfl, rfl⟩
end Go.Proofs.YtlkebhiaimijiaaGreatDoor
