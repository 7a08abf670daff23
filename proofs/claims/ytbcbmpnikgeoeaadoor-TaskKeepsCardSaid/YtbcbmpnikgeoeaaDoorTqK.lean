/- The law TaskKeeps. -/
import Derived.Test.YtbcbmpnikgeoeaaDoorTqH
import Derived.Test.YtbcbmpnikgeoeaaDoorMpI
import Derived.Test.YtbcbmpnikgeoeaaDoorTfF
import Derived.Test.YtbcbmpnikgeoeaaDoorMpF
namespace Go.Proofs.YtbcbmpnikgeoeaaDoor
set_option linter.unusedSimpArgs false
set_option linter.unusedVariables false
open Go Go.RowKit
set_option linter.unusedVariables false

/-- Cells of block g at the places f 0, f 1, .. hold numbers. -/
structure IRow (w : World) (g : Nat) (f : Nat → Nat) (n : Nat) : Prop where
  lt : g < w.heap.size
  at_ : ∀ j, j < n → ∃ x, w.cell? ⟨g, f j, none⟩ = some (.int .i64 x)
  fz : ∀ k, w.frozen? ⟨g, k, none⟩ = false
theorem IRow.set {w : World} {g n : Nat} {f : Nat → Nat} (h : IRow w g f n) {k : Nat} (hk : k < n) (z : Int) : IRow (w.setCell ⟨g, f k, none⟩ (.int .i64 z)) g f n where
  lt := by simpa [World.setCell] using h.lt
  at_ := fun j hj => by
    by_cases e : f j = f k
    · rw [e]
      obtain ⟨x, hx⟩ := h.at_ k hk
      exact ⟨z, World.cell?_setCell_same' _ _ _ (by rw [hx]; rfl)⟩
    · obtain ⟨x, hx⟩ := h.at_ j hj
      exact ⟨x, (set_oth w g (f k) (f j) _ (fun h => e h.symm)).trans hx⟩
  fz := fun j => (set_frz _ _ _ _ _).trans (h.fz j)
theorem IRow.of_own {w : World} {B n c : Nat} {A : Option Addr} {l : List Int} {e : TypeId} (h : w.ownsRow B e 1 (.slice A n c) n (ic l)) (hn : 0 < n) : ∃ g, A = some ⟨g, 0, none⟩ ∧ B ≤ g ∧ IRow w g (fun k => k) n := by
  obtain ⟨g, rfl, h1, h2, h3⟩ := own_frozen h hn
  refine ⟨g, rfl, h1, h2, fun j hj => ⟨nth l j, ?_⟩, h3⟩
  have hl : l.length = n := by have := h.1; unfold ic at this; simpa using this
  exact own_cell h (ic_get (by omega))

set_option maxRecDepth 4000 in
set_option maxHeartbeats 2000000 in
theorem tapplyO_any (t : Tsk) (p : Lies) (s : List Int) (A : Option Addr) (c : Nat) (op : Int) (w : World) (ht : TaskAt w w.heap.size t p) (hs : IntsAt w w.heap.size A s) (e0 : chkC t = 0) :
    Calls Tryd.prog 13 #[TaskV t p, .slice A s.length c, .int .i64 op] w fun e w' => (∃ v, e = .returned (.tuple #[v, erV (apC t s op)]) ∧ (apC t s op = 0 → w'.ownsRow w.heap.size 3 1 v s.length (ic (nxt t s op.toNat))) ∧ (apC t s op ≠ 0 → v = .slice none 0 0)) ∧ Below w.heap.size w w' := by
  have k1 := fun w1 (hb : Below w.heap.size w w1) => tcheck_any t p w1 (ht.up hb)
  have k3 := fun w1 h1 h2 (hb : Below w.heap.size w w1) => apply_any t p s A c op w1 (ht.up hb) (hs.up hb) h1 h2
  obtain ⟨av, ai, ag, ao, cv, ci, cg, co⟩ := p
  unfold TaskV at *
  dsimp only at *
  have Hk := Lib.hid (chk0 e0)
  simp only [e0, erV_0] at k1
  clear e0
  go_enter Tryd.func13, Tryd.ntmps13
  go_wp2_with fail; refine (k1 _ (by repeat (first | exact Below.refl _ _ | refine below_dN ?_ _ | refine Below.drew ?_ | refine Below.alloc ?_ (by first | omega | (simp; done) | (simp; omega)) _ | refine Below.setCell ?_ (by first | omega | (simp; done) | (simp; omega)) _ | refine below_step (by assumption) (by first | omega | (simp; done) | (simp; omega)) ?_))).mono ?_; rintro e w1 ⟨rfl, hb1⟩; obtain ⟨hc1, hf1, hz1, hlt1, hle1⟩ := cellsIf hb1 (by (try simp); exact rfl); (try have : w.heap.size < w1.heap.size := (by omega)); (try have : w.heap.size < w1.heap.size + 1 := (by omega)); (try have : w.heap.size < w1.heap.size + 1 + 1 := (by omega)); (try have : w.heap.size + 1 < w1.heap.size := (by omega)); (try have : w.heap.size + 1 < w1.heap.size + 1 := (by omega)); (try have : w.heap.size + 1 < w1.heap.size + 1 + 1 := (by omega)); (try have : w.heap.size + 1 + 1 < w1.heap.size := (by omega)); (try have : w.heap.size + 1 + 1 < w1.heap.size + 1 := (by omega)); (try have : w.heap.size + 1 + 1 < w1.heap.size + 1 + 1 := (by omega))
  go_wp2_with fail
  refine (k3 _ Hk.out.1 Hk.out.2.2.1 (by repeat (first | exact Below.refl _ _ | refine below_dN ?_ _ | refine Below.drew ?_ | refine Below.alloc ?_ (by first | omega | (simp; done) | (simp; omega)) _ | refine Below.setCell ?_ (by first | omega | (simp; done) | (simp; omega)) _ | refine below_step (by assumption) (by first | omega | (simp; done) | (simp; omega)) ?_))).mono ?_
  rintro e w2 ⟨⟨v, rfl, hg, hn⟩, hb2⟩
  have Hg := Lib.hid hg
  have Hn := Lib.hid hn
  clear hg hn
  have hbw : Below w.heap.size w w2 := by repeat (first | exact Below.refl _ _ | refine below_dN ?_ _ | refine Below.drew ?_ | refine Below.alloc ?_ (by first | omega | (simp; done) | (simp; omega)) _ | refine Below.setCell ?_ (by first | omega | (simp; done) | (simp; omega)) _ | refine below_step (by assumption) (by first | omega | (simp; done) | (simp; omega)) ?_)
  go_wp2
  refine bodyPost_ret (v := .tuple #[v, erV (apC t s op)]) (by simp [results, Tryd.results13, go_sem]) rfl ⟨⟨v, rfl, fun h => own_base (Hg.out h) (by first | omega | (simp; done) | (simp; omega)), Hn.out⟩, hbw⟩

set_option maxRecDepth 4000 in
set_option maxHeartbeats 4000000 in
theorem trunO_any (t : Tsk) (p : Lies) (s : List Int) (A : Option Addr) (c : Nat) (w : World) (ht : TaskAt w w.heap.size t p) (hs : IntsAt w w.heap.size A s) (e0 : chkC t = 0) (e1 : stB t.vars s = true) :
    Calls Tryd.prog 14 #[TaskV t p, .slice A s.length c, .slice none 0 0] w fun e w' => (∃ v, e = .returned (.tuple #[v, .int .i64 0, .nilIface]) ∧ w'.ownsRow w.heap.size 3 1 v s.length (ic s)) ∧ Below w.heap.size w w' := by
  have k1 := fun w1 (hb : Below w.heap.size w w1) => tcheck_any t p w1 (ht.up hb)
  have k2 := fun w1 (hb : Below w.heap.size w w1) => proper_any t.vars s p.av A p.cv c w1 (ht.vars.up hb) (hs.up hb)
  have Hk := Lib.hid (chk0 e0)
  have hsl : s.length ≤ 1000000 := by have := stB_len e1; have := lg_vars Hk.out.1; omega
  have k3 := fun w1 (hb : Below w.heap.size w w1) => clone_any s A c w1 (hs.up hb) hsl
  obtain ⟨av, ai, ag, ao, cv, ci, cg, co⟩ := p
  unfold TaskV at *
  dsimp only at *
  simp only [e0, erV_0] at k1
  clear e0 hsl
  go_enter Tryd.func14, Tryd.ntmps14
  go_wp2_with fail; refine (k1 _ (by repeat (first | exact Below.refl _ _ | refine below_dN ?_ _ | refine Below.drew ?_ | refine Below.alloc ?_ (by first | omega | (simp; done) | (simp; omega)) _ | refine Below.setCell ?_ (by first | omega | (simp; done) | (simp; omega)) _ | refine below_step (by assumption) (by first | omega | (simp; done) | (simp; omega)) ?_))).mono ?_; rintro e w1 ⟨rfl, hb1⟩; obtain ⟨hc1, hf1, hz1, hlt1, hle1⟩ := cellsIf hb1 (by (try simp); exact rfl); (try have : w.heap.size < w1.heap.size := (by omega)); (try have : w.heap.size < w1.heap.size + 1 := (by omega)); (try have : w.heap.size < w1.heap.size + 1 + 1 := (by omega)); (try have : w.heap.size + 1 < w1.heap.size := (by omega)); (try have : w.heap.size + 1 < w1.heap.size + 1 := (by omega)); (try have : w.heap.size + 1 < w1.heap.size + 1 + 1 := (by omega)); (try have : w.heap.size + 1 + 1 < w1.heap.size := (by omega)); (try have : w.heap.size + 1 + 1 < w1.heap.size + 1 := (by omega)); (try have : w.heap.size + 1 + 1 < w1.heap.size + 1 + 1 := (by omega))
  go_wp2_with fail; refine (k2 _ (by repeat (first | exact Below.refl _ _ | refine below_dN ?_ _ | refine Below.drew ?_ | refine Below.alloc ?_ (by first | omega | (simp; done) | (simp; omega)) _ | refine Below.setCell ?_ (by first | omega | (simp; done) | (simp; omega)) _ | refine below_step (by assumption) (by first | omega | (simp; done) | (simp; omega)) ?_))).mono ?_; rintro e w2 ⟨rfl, hb2⟩; obtain ⟨hc2, hf2, hz2, hlt2, hle2⟩ := cellsIf hb2 (by (try simp); exact rfl); (try have : w.heap.size < w2.heap.size := (by omega)); (try have : w.heap.size < w2.heap.size + 1 := (by omega)); (try have : w.heap.size < w2.heap.size + 1 + 1 := (by omega)); (try have : w.heap.size + 1 < w2.heap.size := (by omega)); (try have : w.heap.size + 1 < w2.heap.size + 1 := (by omega)); (try have : w.heap.size + 1 < w2.heap.size + 1 + 1 := (by omega)); (try have : w.heap.size + 1 + 1 < w2.heap.size := (by omega)); (try have : w.heap.size + 1 + 1 < w2.heap.size + 1 := (by omega)); (try have : w.heap.size + 1 + 1 < w2.heap.size + 1 + 1 := (by omega)); (try have : w1.heap.size < w2.heap.size := (by omega)); (try have : w1.heap.size < w2.heap.size + 1 := (by omega)); (try have : w1.heap.size < w2.heap.size + 1 + 1 := (by omega)); (try have : w1.heap.size + 1 < w2.heap.size := (by omega)); (try have : w1.heap.size + 1 < w2.heap.size + 1 := (by omega)); (try have : w1.heap.size + 1 < w2.heap.size + 1 + 1 := (by omega)); (try have : w1.heap.size + 1 + 1 < w2.heap.size := (by omega)); (try have : w1.heap.size + 1 + 1 < w2.heap.size + 1 := (by omega)); (try have : w1.heap.size + 1 + 1 < w2.heap.size + 1 + 1 := (by omega))
  go_wp2_with fail
  refine (k3 _ (by repeat (first | exact Below.refl _ _ | refine below_dN ?_ _ | refine Below.drew ?_ | refine Below.alloc ?_ (by first | omega | (simp; done) | (simp; omega)) _ | refine Below.setCell ?_ (by first | omega | (simp; done) | (simp; omega)) _ | refine below_step (by assumption) (by first | omega | (simp; done) | (simp; omega)) ?_))).mono ?_
  rintro e w3 ⟨⟨v, rfl, hown⟩, hb3⟩
  obtain ⟨hc3, hf3, hz3, hlt3, hle3⟩ := cellsIf hb3 (by (try simp); exact rfl)
  have hbw3 : Below w.heap.size w w3 := by repeat (first | exact Below.refl _ _ | refine below_dN ?_ _ | refine Below.drew ?_ | refine Below.alloc ?_ (by first | omega | (simp; done) | (simp; omega)) _ | refine Below.setCell ?_ (by first | omega | (simp; done) | (simp; omega)) _ | refine below_step (by assumption) (by first | omega | (simp; done) | (simp; omega)) ?_)
  have HO := Lib.hid hown
  clear hown
  go_wp2
  refine wp_loop_rounds 1 ?_
  rw [rounds_succ]
  go_wp2
  refine bodyPost_ret (v := .tuple #[v, .int .i64 0, .nilIface]) (by simp [results, Tryd.results14, go_sem]) rfl ⟨⟨v, rfl, own_base HO.out (by first | omega | (simp; done) | (simp; omega))⟩, hbw3⟩
end Go.Proofs.YtbcbmpnikgeoeaaDoor
