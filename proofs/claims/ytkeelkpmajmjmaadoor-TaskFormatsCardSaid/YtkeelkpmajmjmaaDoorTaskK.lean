/- task.apply. -/
import Derived.Test.YtkeelkpmajmjmaaDoorTaskJ
namespace Go.Proofs.YtkeelkpmajmjmaaDoor
set_option linter.unusedSimpArgs false
set_option linter.unusedVariables false
open Go.RowKit
set_option linter.unusedVariables false

/-- What the first j effects that fire in s make of s. -/
def apE (s : List Int) (es : List Eff) : Nat → List Int
  | 0 => s
  | j + 1 => if hoB (eff es j).whn s then (apE s es j).set (eff es j).var.toNat (eff es j).val else apE s es j
theorem apE_len (s : List Int) (es : List Eff) (j : Nat) : (apE s es j).length = s.length := by
  induction j with
  | zero => rfl
  | succ j ih => unfold apE; split <;> simp [ih]
def apC (t : Tsk) (s : List Int) (op : Int) : Int :=
  if op < 0 then 1 else if (t.ops.length : Int) ≤ op then 1 else if stB t.vars s then (if hoB (opr t.ops op.toNat).pre s then 0 else 12) else 2
theorem ic_set (l : List Int) (k : Nat) (x : Int) : (ic l).set k (.int .i64 x) = ic (l.set k x) := by unfold ic; rw [List.map_set]
theorem mal_var {t : Tsk} (h : malT t = false) {k j : Nat} (hk : k < t.ops.length) (hj : j < (opr t.ops k).effs.length) : 0 ≤ (eff (opr t.ops k).effs j).var ∧ (eff (opr t.ops k).effs j).var < t.vars.length := by
  unfold malT at h
  simp only [Bool.or_eq_false_iff, anyB_false] at h
  have h1 := h.2 k hk
  unfold malO at h1
  simp only [Bool.or_eq_false_iff, anyB_false] at h1
  have h2 := h1.2 j hj
  unfold malE at h2
  simp only [Bool.or_eq_false_iff, Bool.not_eq_false'] at h2
  have h3 := h2.2
  unfold faB at h3
  simp only [decide_eq_true_eq] at h3
  have h4 := h3 0 (by simp)
  exact ⟨h4.1, h4.2.1⟩

theorem lg_vars {t : Tsk} (h : lgT t = false) : t.vars.length ≤ 64 := by
  unfold lgT at h
  simp only [Bool.or_eq_false_iff, anyB_false] at h
  have := h.1.1.1; simp at this; omega
theorem stB_len {vars s : List Int} (h : stB vars s = true) : s.length = vars.length := by
  unfold stB at h; simp only [decide_eq_true_eq] at h; exact h.1
theorem own_keep {wr w1 : World} {B : Nat} {e : TypeId} {v : Value} {n : Nat} {xs : List Value} (h : wr.ownsRow B e 1 v n xs) (hb : Below wr.heap.size wr w1) : w1.ownsRow B e 1 v n xs :=
  h.kept (row := none) ⟨hb.os, hb.tape, hb.output, hb.size, fun k hk _ => hb.block k hk⟩ (by cases v.ownBlock <;> simp)

theorem own_mono {w : World} {B B' : Nat} {e : TypeId} {v : Value} {n : Nat} {xs : List Value} (h : w.ownsRow B e 1 v n xs) (hb : B' ≤ B) : w.ownsRow B' e 1 v n xs :=
  ⟨h.1, h.2.imp id fun ⟨g, cap, cur, h1, h2, h3⟩ => ⟨g, cap, cur, h1, Nat.le_trans hb h2, h3⟩⟩
theorem own_form {w : World} {B : Nat} {e : TypeId} {v : Value} {n : Nat} {xs : List Value} (h : w.ownsRow B e 1 v n xs) (hn : 0 < n) : ∃ g cap, v = .slice (some ⟨g, 0, none⟩) n cap ∧ B ≤ g ∧ g < w.heap.size := by
  rcases h.2 with ⟨_, h0⟩ | ⟨g, cap, cur, hv, hb, hg, _⟩
  · omega
  · exact ⟨g, cap, hv, hb, (Array.getElem?_eq_some_iff.1 hg).1⟩

set_option maxRecDepth 4000 in
set_option maxHeartbeats 2000000 in
theorem apply_any (t : Tsk) (p : Lies) (s : List Int) (A : Option Addr) (c : Nat) (op : Int) (w : World) (ht : TaskAt w w.heap.size t p) (hs : IntsAt w w.heap.size A s) (hlg : lgT t = false) (hmal : malT t = false) :
    Calls Tryd.prog 40 #[TaskV t p, .slice A s.length c, .int .i64 op] w fun e w' =>
      (∃ v, e = .returned (.tuple #[v, erV (apC t s op)]) ∧ (apC t s op = 0 → w'.ownsRow w.heap.size 3 1 v s.length (ic (apE s (opr t.ops op.toNat).effs (opr t.ops op.toNat).effs.length))) ∧ (apC t s op ≠ 0 → v = .slice none 0 0)) ∧ Below w.heap.size w w' := by
  obtain ⟨av, ai, ag, ao, cv, ci, cg, co⟩ := p
  unfold TaskV at *
  dsimp only at *
  have l4 := ht.ops.len
  have ls := hs.len
  have Hlg := Lib.hid (lg_sizes hlg)
  have Hmal := Lib.hid hmal
  have Hlv := Lib.hid (lg_vars hlg)
  clear hlg hmal
  have k1 := fun w1 (hb : Below w.heap.size w w1) => proper_any t.vars s av A cv c w1 (ht.vars.up hb) (hs.up hb)
  cases e1 : decide (op < 0)
  case true =>
    have Hc := Lib.hid (show apC t s op = 1 by unfold apC; rw [if_pos (by simpa using e1)])
    go_enter Tryd.func40, Tryd.ntmps40
    go_wp2
    refine bodyPost_ret (v := .tuple #[.slice none 0 0, .iface 37 (.int .i64 1)]) (by simp [results, Tryd.results40, go_sem]) rfl ⟨⟨_, by rw [Hc.out]; rfl, fun h => absurd h (by rw [Hc.out]; decide), fun _ => rfl⟩, by repeat (first | exact Below.refl _ _ | refine below_dN ?_ _ | refine Below.drew ?_ | refine Below.alloc ?_ (by first | omega | (simp; done) | (simp; omega)) _ | refine Below.setCell ?_ (by first | omega | (simp; done) | (simp; omega)) _ | refine below_step (by assumption) (by first | omega | (simp; done) | (simp; omega)) ?_)⟩
  cases e2 : decide ((t.ops.length : Int) ≤ op)
  case true =>
    have Hc := Lib.hid (show apC t s op = 1 by unfold apC; rw [if_neg (by simpa using e1), if_pos (by simpa using e2)])
    go_enter Tryd.func40, Tryd.ntmps40
    go_wp2
    refine bodyPost_ret (v := .tuple #[.slice none 0 0, .iface 37 (.int .i64 1)]) (by simp [results, Tryd.results40, go_sem]) rfl ⟨⟨_, by rw [Hc.out]; rfl, fun h => absurd h (by rw [Hc.out]; decide), fun _ => rfl⟩, by repeat (first | exact Below.refl _ _ | refine below_dN ?_ _ | refine Below.drew ?_ | refine Below.alloc ?_ (by first | omega | (simp; done) | (simp; omega)) _ | refine Below.setCell ?_ (by first | omega | (simp; done) | (simp; omega)) _ | refine below_step (by assumption) (by first | omega | (simp; done) | (simp; omega)) ?_)⟩
  obtain ⟨k, rfl⟩ : ∃ k : Nat, op = (k : Int) := ⟨op.toNat, by simp at e1; omega⟩
  have hlt : k < t.ops.length := by simp at e2; omega
  have hC : apC t s k = if stB t.vars s then (if hoB (opr t.ops k).pre s then 0 else 12) else 2 := by
    unfold apC; rw [if_neg (by simp), if_neg (by simpa using e2)]; rfl
  have HC := Lib.hid hC
  clear hC e1
  cases e3 : stB t.vars s
  case false =>
    have Hc := Lib.hid (show apC t s k = 2 by rw [HC.out, e3]; rfl)
    go_enter Tryd.func40, Tryd.ntmps40
    go_wp2_with fail; refine (k1 _ (by repeat (first | exact Below.refl _ _ | refine below_dN ?_ _ | refine Below.drew ?_ | refine Below.alloc ?_ (by first | omega | (simp; done) | (simp; omega)) _ | refine Below.setCell ?_ (by first | omega | (simp; done) | (simp; omega)) _ | refine below_step (by assumption) (by first | omega | (simp; done) | (simp; omega)) ?_))).mono ?_; rintro e w1 ⟨rfl, hb1⟩; obtain ⟨hc1, hf1, hz1, hlt1, hle1⟩ := cellsIf hb1 (by (try simp); exact rfl); (try have : w.heap.size < w1.heap.size := (by omega)); (try have : w.heap.size < w1.heap.size + 1 := (by omega)); (try have : w.heap.size < w1.heap.size + 1 + 1 := (by omega)); (try have : w.heap.size + 1 < w1.heap.size := (by omega)); (try have : w.heap.size + 1 < w1.heap.size + 1 := (by omega)); (try have : w.heap.size + 1 < w1.heap.size + 1 + 1 := (by omega)); (try have : w.heap.size + 1 + 1 < w1.heap.size := (by omega)); (try have : w.heap.size + 1 + 1 < w1.heap.size + 1 := (by omega)); (try have : w.heap.size + 1 + 1 < w1.heap.size + 1 + 1 := (by omega))
    go_wp2
    refine bodyPost_ret (v := .tuple #[.slice none 0 0, .iface 37 (.int .i64 2)]) (by simp [results, Tryd.results40, go_sem]) rfl ⟨⟨_, by rw [Hc.out]; rfl, fun h => absurd h (by rw [Hc.out]; decide), fun _ => rfl⟩, by repeat (first | exact Below.refl _ _ | refine below_dN ?_ _ | refine Below.drew ?_ | refine Below.alloc ?_ (by first | omega | (simp; done) | (simp; omega)) _ | refine Below.setCell ?_ (by first | omega | (simp; done) | (simp; omega)) _ | refine below_step (by assumption) (by first | omega | (simp; done) | (simp; omega)) ?_)⟩
  obtain ⟨b, o, S, d, T, d2, ea, hb, q0, qs, q1, q2, f2, q3, e5⟩ := ht.ops.at2 (Below.refl _ w) hlt
  dsimp only at ea
  subst ea
  have g2 : b < w.heap.size := hb
  have j1 := f2.len
  have j2 := e5.len
  have k2 := fun w1 (hb : Below w.heap.size w w1) => holds_any (opr t.ops k).pre s S A d c w1 (f2.up hb) (hs.up hb)
  cases e4 : hoB (opr t.ops k).pre s
  case false =>
    have Hc := Lib.hid (show apC t s k = 12 by rw [HC.out, e3, e4]; rfl)
    go_enter Tryd.func40, Tryd.ntmps40
    go_wp2_with fail; refine (k1 _ (by repeat (first | exact Below.refl _ _ | refine below_dN ?_ _ | refine Below.drew ?_ | refine Below.alloc ?_ (by first | omega | (simp; done) | (simp; omega)) _ | refine Below.setCell ?_ (by first | omega | (simp; done) | (simp; omega)) _ | refine below_step (by assumption) (by first | omega | (simp; done) | (simp; omega)) ?_))).mono ?_; rintro e w1 ⟨rfl, hb1⟩; obtain ⟨hc1, hf1, hz1, hlt1, hle1⟩ := cellsIf hb1 (by (try simp); exact rfl); (try have : w.heap.size < w1.heap.size := (by omega)); (try have : w.heap.size < w1.heap.size + 1 := (by omega)); (try have : w.heap.size < w1.heap.size + 1 + 1 := (by omega)); (try have : w.heap.size + 1 < w1.heap.size := (by omega)); (try have : w.heap.size + 1 < w1.heap.size + 1 := (by omega)); (try have : w.heap.size + 1 < w1.heap.size + 1 + 1 := (by omega)); (try have : w.heap.size + 1 + 1 < w1.heap.size := (by omega)); (try have : w.heap.size + 1 + 1 < w1.heap.size + 1 := (by omega)); (try have : w.heap.size + 1 + 1 < w1.heap.size + 1 + 1 := (by omega))
    go_wp2_with fail; refine (k2 _ (by repeat (first | exact Below.refl _ _ | refine below_dN ?_ _ | refine Below.drew ?_ | refine Below.alloc ?_ (by first | omega | (simp; done) | (simp; omega)) _ | refine Below.setCell ?_ (by first | omega | (simp; done) | (simp; omega)) _ | refine below_step (by assumption) (by first | omega | (simp; done) | (simp; omega)) ?_))).mono ?_; rintro e w2 ⟨rfl, hb2⟩; obtain ⟨hc2, hf2, hz2, hlt2, hle2⟩ := cellsIf hb2 (by (try simp); exact rfl); (try have : w.heap.size < w2.heap.size := (by omega)); (try have : w.heap.size < w2.heap.size + 1 := (by omega)); (try have : w.heap.size < w2.heap.size + 1 + 1 := (by omega)); (try have : w.heap.size + 1 < w2.heap.size := (by omega)); (try have : w.heap.size + 1 < w2.heap.size + 1 := (by omega)); (try have : w.heap.size + 1 < w2.heap.size + 1 + 1 := (by omega)); (try have : w.heap.size + 1 + 1 < w2.heap.size := (by omega)); (try have : w.heap.size + 1 + 1 < w2.heap.size + 1 := (by omega)); (try have : w.heap.size + 1 + 1 < w2.heap.size + 1 + 1 := (by omega)); (try have : w1.heap.size < w2.heap.size := (by omega)); (try have : w1.heap.size < w2.heap.size + 1 := (by omega)); (try have : w1.heap.size < w2.heap.size + 1 + 1 := (by omega)); (try have : w1.heap.size + 1 < w2.heap.size := (by omega)); (try have : w1.heap.size + 1 < w2.heap.size + 1 := (by omega)); (try have : w1.heap.size + 1 < w2.heap.size + 1 + 1 := (by omega)); (try have : w1.heap.size + 1 + 1 < w2.heap.size := (by omega)); (try have : w1.heap.size + 1 + 1 < w2.heap.size + 1 := (by omega)); (try have : w1.heap.size + 1 + 1 < w2.heap.size + 1 + 1 := (by omega))
    go_wp2
    refine bodyPost_ret (v := .tuple #[.slice none 0 0, .iface 37 (.int .i64 12)]) (by simp [results, Tryd.results40, go_sem]) rfl ⟨⟨_, by rw [Hc.out]; rfl, fun h => absurd h (by rw [Hc.out]; decide), fun _ => rfl⟩, by repeat (first | exact Below.refl _ _ | refine below_dN ?_ _ | refine Below.drew ?_ | refine Below.alloc ?_ (by first | omega | (simp; done) | (simp; omega)) _ | refine Below.setCell ?_ (by first | omega | (simp; done) | (simp; omega)) _ | refine below_step (by assumption) (by first | omega | (simp; done) | (simp; omega)) ?_)⟩
  have Hc := Lib.hid (show apC t s k = 0 by rw [HC.out, e3, e4]; rfl)
  have Hsl := Lib.hid (stB_len e3)
  have k4 := fun w1 (hb : Below w.heap.size w w1) => clone_any s A c w1 (hs.up hb) (by have := Hsl.out; have := Hlv.out; omega)
  go_enter Tryd.func40, Tryd.ntmps40
  go_wp2_with fail; refine (k1 _ (by repeat (first | exact Below.refl _ _ | refine below_dN ?_ _ | refine Below.drew ?_ | refine Below.alloc ?_ (by first | omega | (simp; done) | (simp; omega)) _ | refine Below.setCell ?_ (by first | omega | (simp; done) | (simp; omega)) _ | refine below_step (by assumption) (by first | omega | (simp; done) | (simp; omega)) ?_))).mono ?_; rintro e w1 ⟨rfl, hb1⟩; obtain ⟨hc1, hf1, hz1, hlt1, hle1⟩ := cellsIf hb1 (by (try simp); exact rfl); (try have : w.heap.size < w1.heap.size := (by omega)); (try have : w.heap.size < w1.heap.size + 1 := (by omega)); (try have : w.heap.size < w1.heap.size + 1 + 1 := (by omega)); (try have : w.heap.size + 1 < w1.heap.size := (by omega)); (try have : w.heap.size + 1 < w1.heap.size + 1 := (by omega)); (try have : w.heap.size + 1 < w1.heap.size + 1 + 1 := (by omega)); (try have : w.heap.size + 1 + 1 < w1.heap.size := (by omega)); (try have : w.heap.size + 1 + 1 < w1.heap.size + 1 := (by omega)); (try have : w.heap.size + 1 + 1 < w1.heap.size + 1 + 1 := (by omega))
  go_wp2_with fail; refine (k2 _ (by repeat (first | exact Below.refl _ _ | refine below_dN ?_ _ | refine Below.drew ?_ | refine Below.alloc ?_ (by first | omega | (simp; done) | (simp; omega)) _ | refine Below.setCell ?_ (by first | omega | (simp; done) | (simp; omega)) _ | refine below_step (by assumption) (by first | omega | (simp; done) | (simp; omega)) ?_))).mono ?_; rintro e w2 ⟨rfl, hb2⟩; obtain ⟨hc2, hf2, hz2, hlt2, hle2⟩ := cellsIf hb2 (by (try simp); exact rfl); (try have : w.heap.size < w2.heap.size := (by omega)); (try have : w.heap.size < w2.heap.size + 1 := (by omega)); (try have : w.heap.size < w2.heap.size + 1 + 1 := (by omega)); (try have : w.heap.size + 1 < w2.heap.size := (by omega)); (try have : w.heap.size + 1 < w2.heap.size + 1 := (by omega)); (try have : w.heap.size + 1 < w2.heap.size + 1 + 1 := (by omega)); (try have : w.heap.size + 1 + 1 < w2.heap.size := (by omega)); (try have : w.heap.size + 1 + 1 < w2.heap.size + 1 := (by omega)); (try have : w.heap.size + 1 + 1 < w2.heap.size + 1 + 1 := (by omega)); (try have : w1.heap.size < w2.heap.size := (by omega)); (try have : w1.heap.size < w2.heap.size + 1 := (by omega)); (try have : w1.heap.size < w2.heap.size + 1 + 1 := (by omega)); (try have : w1.heap.size + 1 < w2.heap.size := (by omega)); (try have : w1.heap.size + 1 < w2.heap.size + 1 := (by omega)); (try have : w1.heap.size + 1 < w2.heap.size + 1 + 1 := (by omega)); (try have : w1.heap.size + 1 + 1 < w2.heap.size := (by omega)); (try have : w1.heap.size + 1 + 1 < w2.heap.size + 1 := (by omega)); (try have : w1.heap.size + 1 + 1 < w2.heap.size + 1 + 1 := (by omega))
  go_wp2_with fail
  refine (k4 _ (by repeat (first | exact Below.refl _ _ | refine below_dN ?_ _ | refine Below.drew ?_ | refine Below.alloc ?_ (by first | omega | (simp; done) | (simp; omega)) _ | refine Below.setCell ?_ (by first | omega | (simp; done) | (simp; omega)) _ | refine below_step (by assumption) (by first | omega | (simp; done) | (simp; omega)) ?_))).mono ?_
  rintro e w3 ⟨⟨v, rfl, hown⟩, hb3⟩
  obtain ⟨hc3, hf3, hz3, hlt3, hle3⟩ := cellsIf hb3 (by (try simp); exact rfl)
  have hbw3 : Below w.heap.size w w3 := by repeat (first | exact Below.refl _ _ | refine below_dN ?_ _ | refine Below.drew ?_ | refine Below.alloc ?_ (by first | omega | (simp; done) | (simp; omega)) _ | refine Below.setCell ?_ (by first | omega | (simp; done) | (simp; omega)) _ | refine below_step (by assumption) (by first | omega | (simp; done) | (simp; omega)) ?_)
  have hown1 := own_mono hown (B' := w.heap.size) (by omega)
  clear hown
  go_wp2
  go_loopw [49] (fun i wr => ∃ j : Nat, j ≤ (opr t.ops k).effs.length ∧ i = .int .i64 j ∧ wr.ownsRow w.heap.size 3 1 v s.length (ic (apE s (opr t.ops k).effs j)) ∧ Below w.heap.size w wr) (fun i _ => (opr t.ops k).effs.length - (intOf i).toNat)
  case atStart => exact ⟨0, by omega, rfl, hown1, hbw3⟩
  case round =>
    clear hc1 hc2 hc3 hf1 hf2 hf3 hlt1 hlt2 hlt3 hle1 hle2 hle3 hb1 hb2 hb3 hown1 hbw3
    obtain ⟨j, hj, rfl, hown, hbel2⟩ := hrel
    by_cases hlt2 : j < (opr t.ops k).effs.length
    · obtain ⟨b', o', S', c', ea', hb', i0, f5, i1, i2⟩ := e5.at2 hbel2 hlt2
      subst ea'
      have hbz2 := hbel2.size
      have g3 : b' < wr.heap.size := by omega
      have j3 := f5.len
      have hv := mal_var Hmal.out hlt hlt2
      have hsl := Hsl.out
      have v0 := hv.1
      have v1 : (eff (opr t.ops k).effs j).var < s.length := by omega
      clear hsl hv
      obtain ⟨g, cap, rfl, hg1, hg2⟩ := own_form hown (by omega)
      have k5 := fun w1 (hb : Below w.heap.size w w1) => holds_any (eff (opr t.ops k).effs j).whn s S' A c' c w1 (f5.up hb) (hs.up hb)
      cases e6 : hoB (eff (opr t.ops k).effs j).whn s
      · have He := Lib.hid (show apE s (opr t.ops k).effs (j + 1) = apE s (opr t.ops k).effs j by conv => lhs; unfold apE; rw [if_neg (by rw [e6]; simp)])
        go_wp2_with fail; refine (k5 _ (by repeat (first | exact Below.refl _ _ | refine below_dN ?_ _ | refine Below.drew ?_ | refine Below.alloc ?_ (by first | omega | (simp; done) | (simp; omega)) _ | refine Below.setCell ?_ (by first | omega | (simp; done) | (simp; omega)) _ | refine below_step (by assumption) (by first | omega | (simp; done) | (simp; omega)) ?_))).mono ?_; rintro e w4 ⟨rfl, hb4⟩; obtain ⟨hc4, hf4, hz4, hlt4, hle4⟩ := cellsIf hb4 (by (try simp); exact rfl); (try have : w.heap.size < w4.heap.size := (by omega)); (try have : w.heap.size < w4.heap.size + 1 := (by omega)); (try have : w.heap.size < w4.heap.size + 1 + 1 := (by omega)); (try have : w.heap.size + 1 < w4.heap.size := (by omega)); (try have : w.heap.size + 1 < w4.heap.size + 1 := (by omega)); (try have : w.heap.size + 1 < w4.heap.size + 1 + 1 := (by omega)); (try have : w.heap.size + 1 + 1 < w4.heap.size := (by omega)); (try have : w.heap.size + 1 + 1 < w4.heap.size + 1 := (by omega)); (try have : w.heap.size + 1 + 1 < w4.heap.size + 1 + 1 := (by omega)); (try have : w1.heap.size < w4.heap.size := (by omega)); (try have : w1.heap.size < w4.heap.size + 1 := (by omega)); (try have : w1.heap.size < w4.heap.size + 1 + 1 := (by omega)); (try have : w1.heap.size + 1 < w4.heap.size := (by omega)); (try have : w1.heap.size + 1 < w4.heap.size + 1 := (by omega)); (try have : w1.heap.size + 1 < w4.heap.size + 1 + 1 := (by omega)); (try have : w1.heap.size + 1 + 1 < w4.heap.size := (by omega)); (try have : w1.heap.size + 1 + 1 < w4.heap.size + 1 := (by omega)); (try have : w1.heap.size + 1 + 1 < w4.heap.size + 1 + 1 := (by omega)); (try have : w2.heap.size < w4.heap.size := (by omega)); (try have : w2.heap.size < w4.heap.size + 1 := (by omega)); (try have : w2.heap.size < w4.heap.size + 1 + 1 := (by omega)); (try have : w2.heap.size + 1 < w4.heap.size := (by omega)); (try have : w2.heap.size + 1 < w4.heap.size + 1 := (by omega)); (try have : w2.heap.size + 1 < w4.heap.size + 1 + 1 := (by omega)); (try have : w2.heap.size + 1 + 1 < w4.heap.size := (by omega)); (try have : w2.heap.size + 1 + 1 < w4.heap.size + 1 := (by omega)); (try have : w2.heap.size + 1 + 1 < w4.heap.size + 1 + 1 := (by omega)); (try have : w3.heap.size < w4.heap.size := (by omega)); (try have : w3.heap.size < w4.heap.size + 1 := (by omega)); (try have : w3.heap.size < w4.heap.size + 1 + 1 := (by omega)); (try have : w3.heap.size + 1 < w4.heap.size := (by omega)); (try have : w3.heap.size + 1 < w4.heap.size + 1 := (by omega)); (try have : w3.heap.size + 1 < w4.heap.size + 1 + 1 := (by omega)); (try have : w3.heap.size + 1 + 1 < w4.heap.size := (by omega)); (try have : w3.heap.size + 1 + 1 < w4.heap.size + 1 := (by omega)); (try have : w3.heap.size + 1 + 1 < w4.heap.size + 1 + 1 := (by omega))
        go_wp2
        go_roundw
        case rel => exact ⟨j + 1, by omega, by go_num, (by rw [He.out]; exact own_keep (own_keep hown (Below.alloc (Below.refl _ _) (Nat.le_refl _) _)) hb4), by repeat (first | exact Below.refl _ _ | refine below_dN ?_ _ | refine Below.drew ?_ | refine Below.alloc ?_ (by first | omega | (simp; done) | (simp; omega)) _ | refine Below.setCell ?_ (by first | omega | (simp; done) | (simp; omega)) _ | refine below_step (by assumption) (by first | omega | (simp; done) | (simp; omega)) ?_)⟩
        case measure => simp [intOf]; omega
      · have He := Lib.hid (show apE s (opr t.ops k).effs (j + 1) = (apE s (opr t.ops k).effs j).set (eff (opr t.ops k).effs j).var.toNat (eff (opr t.ops k).effs j).val by conv => lhs; unfold apE; rw [if_pos e6])
        go_wp2_with fail; refine (k5 _ (by repeat (first | exact Below.refl _ _ | refine below_dN ?_ _ | refine Below.drew ?_ | refine Below.alloc ?_ (by first | omega | (simp; done) | (simp; omega)) _ | refine Below.setCell ?_ (by first | omega | (simp; done) | (simp; omega)) _ | refine below_step (by assumption) (by first | omega | (simp; done) | (simp; omega)) ?_))).mono ?_; rintro e w4 ⟨rfl, hb4⟩; obtain ⟨hc4, hf4, hz4, hlt4, hle4⟩ := cellsIf hb4 (by (try simp); exact rfl); (try have : w.heap.size < w4.heap.size := (by omega)); (try have : w.heap.size < w4.heap.size + 1 := (by omega)); (try have : w.heap.size < w4.heap.size + 1 + 1 := (by omega)); (try have : w.heap.size + 1 < w4.heap.size := (by omega)); (try have : w.heap.size + 1 < w4.heap.size + 1 := (by omega)); (try have : w.heap.size + 1 < w4.heap.size + 1 + 1 := (by omega)); (try have : w.heap.size + 1 + 1 < w4.heap.size := (by omega)); (try have : w.heap.size + 1 + 1 < w4.heap.size + 1 := (by omega)); (try have : w.heap.size + 1 + 1 < w4.heap.size + 1 + 1 := (by omega)); (try have : w1.heap.size < w4.heap.size := (by omega)); (try have : w1.heap.size < w4.heap.size + 1 := (by omega)); (try have : w1.heap.size < w4.heap.size + 1 + 1 := (by omega)); (try have : w1.heap.size + 1 < w4.heap.size := (by omega)); (try have : w1.heap.size + 1 < w4.heap.size + 1 := (by omega)); (try have : w1.heap.size + 1 < w4.heap.size + 1 + 1 := (by omega)); (try have : w1.heap.size + 1 + 1 < w4.heap.size := (by omega)); (try have : w1.heap.size + 1 + 1 < w4.heap.size + 1 := (by omega)); (try have : w1.heap.size + 1 + 1 < w4.heap.size + 1 + 1 := (by omega)); (try have : w2.heap.size < w4.heap.size := (by omega)); (try have : w2.heap.size < w4.heap.size + 1 := (by omega)); (try have : w2.heap.size < w4.heap.size + 1 + 1 := (by omega)); (try have : w2.heap.size + 1 < w4.heap.size := (by omega)); (try have : w2.heap.size + 1 < w4.heap.size + 1 := (by omega)); (try have : w2.heap.size + 1 < w4.heap.size + 1 + 1 := (by omega)); (try have : w2.heap.size + 1 + 1 < w4.heap.size := (by omega)); (try have : w2.heap.size + 1 + 1 < w4.heap.size + 1 := (by omega)); (try have : w2.heap.size + 1 + 1 < w4.heap.size + 1 + 1 := (by omega)); (try have : w3.heap.size < w4.heap.size := (by omega)); (try have : w3.heap.size < w4.heap.size + 1 := (by omega)); (try have : w3.heap.size < w4.heap.size + 1 + 1 := (by omega)); (try have : w3.heap.size + 1 < w4.heap.size := (by omega)); (try have : w3.heap.size + 1 < w4.heap.size + 1 := (by omega)); (try have : w3.heap.size + 1 < w4.heap.size + 1 + 1 := (by omega)); (try have : w3.heap.size + 1 + 1 < w4.heap.size := (by omega)); (try have : w3.heap.size + 1 + 1 < w4.heap.size + 1 := (by omega)); (try have : w3.heap.size + 1 + 1 < w4.heap.size + 1 + 1 := (by omega))
        have hown4 := own_keep (own_keep hown (Below.alloc (Below.refl _ _) (Nat.le_refl _) _)) hb4
        have x1 : wr.cell? ⟨g, (eff (opr t.ops k).effs j).var.toNat, none⟩ = some (.int .i64 (nth (apE s (opr t.ops k).effs j) (eff (opr t.ops k).effs j).var.toNat)) := (hown.cellAt _ (by omega)).trans (ic_get (by rw [apE_len]; omega))
        have x2 : wr.frozen? ⟨g, (eff (opr t.ops k).effs j).var.toNat, none⟩ = false := hown.frozenAt _
        go_wp2
        go_roundw
        case rel => exact ⟨j + 1, by omega, by go_num, (by rw [He.out, ← ic_set]; exact (hown4.stored _ _).1), by repeat (first | exact Below.refl _ _ | refine below_dN ?_ _ | refine Below.drew ?_ | refine Below.alloc ?_ (by first | omega | (simp; done) | (simp; omega)) _ | refine Below.setCell ?_ (by first | omega | (simp; done) | (simp; omega)) _ | refine below_step (by assumption) (by first | omega | (simp; done) | (simp; omega)) ?_)⟩
        case measure => simp [intOf]; omega
    · obtain rfl : j = (opr t.ops k).effs.length := by omega
      go_wp2
      refine bodyPost_ret (v := .tuple #[v, .nilIface]) (by simp [results, Tryd.results40, go_sem]) rfl ⟨⟨_, by rw [Hc.out]; rfl, fun _ => hown, fun h => absurd Hc.out h⟩, by repeat (first | exact Below.refl _ _ | refine below_dN ?_ _ | refine Below.drew ?_ | refine Below.alloc ?_ (by first | omega | (simp; done) | (simp; omega)) _ | refine Below.setCell ?_ (by first | omega | (simp; done) | (simp; omega)) _ | refine below_step (by assumption) (by first | omega | (simp; done) | (simp; omega)) ?_)⟩

end Go.Proofs.YtkeelkpmajmjmaaDoor
