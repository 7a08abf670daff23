/- simplex: lists of rows in memory. -/
import Derived.Test.YtaampjhdgeoicaaGreatSxW
import Derived.Test.YtaampjhdgeoicaaGreatSxQ
import Derived.Test.YtaampjhdgeoicaaGreatOpenG
namespace Go.Proofs.YtaampjhdgeoicaaGreat
set_option linter.unusedSimpArgs false
set_option linter.unusedVariables false
open Go Go.RowKit
set_option linter.unusedVariables false

theorem facts_src {w : World} {B : Nat} {A : Option Addr} {l : List (Int × Int)} {c : Nat} (h : FactsAt w B A l) (hA : A = none → c = 0) : SrcAt w A l.length c 2 (fc l) where
 none := fun e => by
  refine ⟨?_, hA e⟩
  rcases Nat.eq_zero_or_pos l.length with h0 | h0
  ·exact h0
  ·obtain ⟨b, off, e2, _⟩ := h.at_ h0
   rw [e] at e2; cases e2
 len := fc_len l
 cells := fun ad e => by subst e; exact fracs_cells h
 one := fc_one
/-- The rows' slices as a list of values. -/
structure Sls (w : World) (R : List (List (Int × Int))) (xs : List Value) : Prop where
 len : xs.length = R.length
 at_ : ∀ i, i < R.length → ∃ S cS, xs[i]? = some (.slice S (mr R i).length cS) ∧ (S = none → cS = 0) ∧ FactsAt w w.heap.size S (mr R i)
theorem Sls.up {w w' : World} {R : List (List (Int × Int))} {xs : List Value} (h : Sls w R xs) (hb : Below w.heap.size w w') : Sls w' R xs := ⟨h.len, fun i hi => by
 obtain ⟨S, cS, h1, h2, h3⟩ := h.at_ i hi
 exact ⟨S, cS, h1, h2, factsAt_up h3 hb⟩⟩
theorem mx_list {w : World} {A : Option Addr} {R : List (List (Int × Int))} {c : Nat} (h : MxAt w A R) (hA : A = none → c = 0) : ∃ xs, Sls w R xs ∧ SrcAt w A R.length c 1 xs := by
 rcases Nat.eq_zero_or_pos R.length with h0 | h0
 ·refine ⟨[], ⟨by rw [h0]; rfl, fun i hi => by omega⟩, ⟨fun e => ⟨h0, hA e⟩, by rw [h0]; rfl, fun ad e j u hj => by simp at hj, fun u hu => by cases hu⟩⟩
 ·obtain ⟨b, off, rfl, hlt, hc⟩ := h.2 h0
  obtain ⟨xs, hl, hx⟩ := list_of (Value.bool false) R.length (fun i x => ∃ S cS, x = .slice S (mr R i).length cS ∧ w.cell? ⟨b, off + i, none⟩ = some x ∧ (S = none → cS = 0) ∧ FactsAt w w.heap.size S (mr R i)) fun i hi => by
   obtain ⟨S, cS, h1, h2, h3⟩ := hc i hi
   exact ⟨_, S, cS, rfl, h1, h2, h3⟩
  refine ⟨xs, ⟨hl, fun i hi => ?_⟩, ⟨(fun e => nomatch e), by rw [hl]; omega, fun ad e j u hj => ?_, fun u hu => ?_⟩⟩
  ·obtain ⟨S, cS, h1, _, h3, h4⟩ := hx i hi
   have hi' : i < xs.length := by omega
   refine ⟨S, cS, ?_, h3, h4⟩
   rw [List.getElem?_eq_getElem hi', ← h1]
   simp [List.getD, hi']
  ·cases e
   obtain ⟨hj', rfl⟩ := List.getElem?_eq_some_iff.1 hj
   obtain ⟨S, cS, h1, h2, _⟩ := hx j (by omega)
   have h3 : xs.getD j (Value.bool false) = xs[j] := by simp [List.getD, hj']
   rw [h3] at h2
   unfold Addr.add
   split
   ·rename_i e0; subst e0; exact h2
   ·exact h2
  ·obtain ⟨j, hj, rfl⟩ := List.getElem_of_mem hu
   obtain ⟨S, cS, h1, _⟩ := hx j (by omega)
   have h3 : xs.getD j (Value.bool false) = xs[j] := by simp [List.getD, hj]
   rw [h3] at h1
   rw [h1]; rfl
theorem mr_lt {R : List (List (Int × Int))} {o : List (Int × Int)} {i : Nat} (h : i < R.length) : mr (R ++ [o]) i = mr R i := by unfold mr; simp [List.getD, List.getElem?_append_left h]
theorem mr_eq {R : List (List (Int × Int))} {o : List (Int × Int)} : mr (R ++ [o]) R.length = o := by unfold mr; simp [List.getD]
theorem Sls.push {w : World} {R : List (List (Int × Int))} {xs : List Value} {o : List (Int × Int)} {S : Option Addr} {cS : Nat} (h : Sls w R xs) (hS : S = none → cS = 0) (ho : FactsAt w w.heap.size S o) : Sls w (R ++ [o]) (xs ++ [.slice S o.length cS]) := by
 refine ⟨by rw [List.length_append, List.length_append, h.len]; rfl, fun i hi => ?_⟩
 rw [List.length_append] at hi
 have hi2 : i < R.length + 1 := hi
 by_cases e : i < R.length
 ·obtain ⟨S', c', h1, h2, h3⟩ := h.at_ i e
  rw [mr_lt e]
  exact ⟨S', c', by rw [List.getElem?_append_left (by rw [h.len]; exact e)]; exact h1, h2, h3⟩
 ·obtain rfl : i = R.length := by omega
  rw [mr_eq]
  exact ⟨S, cS, by rw [List.getElem?_append_right (by rw [h.len]; exact Nat.le_refl _), h.len, Nat.sub_self]; rfl, hS, ho⟩
theorem mx_of_own {w : World} {B : Nat} {v : Value} {R : List (List (Int × Int))} {xs : List Value} (h : w.ownsRow B 37 1 v R.length xs) (hx : Sls w R xs) (hl : R.length ≤ 1000) : ∃ A c, v = .slice A R.length c ∧ MxAt w A R := by
 rcases h.2 with ⟨rfl, h0⟩ | ⟨b, cap, cur, rfl, hb, hg, hh⟩
 ·exact ⟨none, 0, by rw [h0], by omega, fun hp => by omega⟩
 ·refine ⟨_, cap, rfl, by omega, fun _ => ⟨b, 0, rfl, (Array.getElem?_eq_some_iff.1 hg).1, fun i hi => ?_⟩⟩
  obtain ⟨S, cS, h1, h2, h3⟩ := hx.at_ i hi
  exact ⟨S, cS, by rw [Nat.zero_add]; exact (World.ownsRow.cellAt h i (by omega)).trans h1, h2, h3⟩


end Go.Proofs.YtaampjhdgeoicaaGreat
