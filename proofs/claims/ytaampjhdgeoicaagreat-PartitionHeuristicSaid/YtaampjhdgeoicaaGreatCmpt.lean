/- slices.Compact of a list of numbers of the call's own, by the library's contract laid at this translation; slices.Equal. -/
import Derived.Test.YtaampjhdgeoicaaGreatMfA
import Derived.Shelf.Slices.Cells
import Derived.Lib.LazyBuf
import Derived.Test.YtaampjhdgeoicaaGreatMtB
import Derived.Test.YtaampjhdgeoicaaGreatMfC
namespace Go.Proofs.YtaampjhdgeoicaaGreat
set_option linter.unusedSimpArgs false
set_option linter.unusedVariables false
open Go.Shelf Go.RowKit
set_option linter.unusedVariables false

def lays2_20_ren : Go.Shelf.Ren := ⟨fun | 20 => 68 | n => n, fun | 0 => 0 | 3 => 3 | 4 => 4 | 22 => 22 | n => n, fun | n => n⟩
theorem lays2_20 : Go.Proofs.Lays2.n20 Tryz.prog lays2_20_ren := {
 mixed := by kernel_rfl
 f20 := Tryz.func68.trans (congrArg some (by kernel_rfl))
 t0 := Tryz.underlying0
 a0 := Tryz.isAgg0
 z0 := Tryz.sizeOf0
 v0 := Tryz.zeroValue0
 t3 := Tryz.underlying3
 a3 := Tryz.isAgg3
 z3 := Tryz.sizeOf3
 v3 := Tryz.zeroValue3
 t4 := Tryz.underlying4
 a4 := Tryz.isAgg4
 z4 := Tryz.sizeOf4
 v4 := Tryz.zeroValue4
 t22 := Tryz.underlying22
 a22 := Tryz.isAgg22
 z22 := Tryz.sizeOf22
 v22 := Tryz.zeroValue22
 i3 := by kernel_rfl }

theorem getBang (l : List Int) (k : Nat) : l.toArray[k]! = l.getD k 0 := by
 simp [List.getD]
/-- One element more. -/
theorem compact_snoc (l : List Int) (x : Int) : Lib.compact (l ++ [x]) = Lib.compact l ++ (if l.getLast? = some x then [] else [x]) := by
 have key : ∀ m, m ≤ l.length → Lib.compactUpTo (l ++ [x]).toArray m = Lib.compactUpTo l.toArray m := by
  intro m
  induction m with
  | zero => intro _; rfl
  | succ m ih =>
   intro hm
   rw [Lib.compactUpTo_succ, Lib.compactUpTo_succ, ih (by omega)]
   have e1 : (l ++ [x]).toArray[m]! = l.toArray[m]! := by rw [getBang, getBang]; simp [List.getD, List.getElem?_append_left (show m < l.length by omega)]
   have e2 : (l ++ [x]).toArray[m - 1]! = l.toArray[m - 1]! := by rw [getBang, getBang]; simp [List.getD, List.getElem?_append_left (show m - 1 < l.length by omega)]
   unfold Lib.keeps
   rw [e1, e2]
 unfold Lib.compact
 rw [List.length_append, List.length_singleton, Lib.compactUpTo_succ, key _ (Nat.le_refl _)]
 have e1 : (l ++ [x]).toArray[l.length]! = x := by rw [getBang]; simp [List.getD]
 congr 1
 rcases Nat.eq_zero_or_pos l.length with h0 | h0
 ·obtain rfl := List.length_eq_zero_iff.1 h0
  simp [Lib.keeps]
 ·have e2 : (l ++ [x]).toArray[l.length - 1]! = l.getD (l.length - 1) 0 := by rw [getBang]; simp [List.getD, List.getElem?_append_left (show l.length - 1 < l.length by omega)]
  have e3 : l.getLast? = some (l.getD (l.length - 1) 0) := by
   rw [List.getLast?_eq_getElem?]; simp [List.getD, show l.length - 1 < l.length by omega]
  rw [e3]
  unfold Lib.keeps
  rw [e1, e2]
  by_cases h : l.getD (l.length - 1) 0 = x
  ·rw [if_neg (by simp only [decide_eq_true_eq]; exact fun e => e.elim (by omega) (fun e => e h.symm)), if_pos (by rw [h])]
  ·have h1 : ¬ (x = l.getD (l.length - 1) 0) := fun e => h e.symm
   rw [if_pos (by simp only [decide_eq_true_eq]; exact .inr h1), if_neg (fun e => h (Option.some.inj e))]

/-- A slice of numbers as a result, not below block lo. -/
def GotI2 (w : World) (lo : Nat) (v : Value) (l : List Int) : Prop := ∃ A c, v = .slice A l.length c ∧ (A = none → c = 0) ∧ IntsAt w w.heap.size A l ∧ ∀ a, A = some a → lo ≤ a.block
theorem GotI2.mono {w : World} {lo lo' : Nat} {v : Value} {l : List Int} (h : GotI2 w lo v l) (hl : lo' ≤ lo) : GotI2 w lo' v l := by
 obtain ⟨A, c, h1, h2, h3, h4⟩ := h
 exact ⟨A, c, h1, h2, h3, fun a e => Nat.le_trans hl (h4 a e)⟩
theorem got2_nil (w : World) (lo : Nat) : GotI2 w lo (.slice none 0 0) [] := ⟨none, 0, rfl, fun _ => rfl, ⟨by simp, fun h => absurd h (by simp)⟩, fun a e => by cases e⟩
theorem own_got2 {w : World} {B : Nat} {v : Value} {l : List Int} (h : w.ownsRow B 3 1 v l.length (ic l)) (hl : l.length ≤ 140737488355328) : GotI2 w B v l := by
 obtain ⟨A, c, h1, h2, h3⟩ := own_got h hl
 refine ⟨A, c, h1, h2, h3, fun a e => ?_⟩
 rcases h.2 with ⟨e2, h0⟩ | ⟨g, cap, cur, e2, hb, _⟩
 ·rw [h1, e] at e2; cases e2
 ·rw [h1, e] at e2; cases e2; exact hb
theorem blw_set {B b : Nat} {a : World} (hb : B ≤ b) : ∀ (vs : List Value) (o : Nat) (w : World), Below B a w → Below B a (w.setCells b o vs)
 | [], _, _, h => h
 | v :: r, o, w, h => blw_set hb r (o + 1) _ (h.setCell (p := ⟨b, o, none⟩) hb v)
theorem compact_any (l : List Int) (v : Value) (B : Nat) (w : World) (h : w.ownsRow B 3 1 v l.length (ic l)) (hl : l.length ≤ 1000000) :
  Calls Tryz.prog 68 #[v] w fun e w' => (∃ v, e = .returned v ∧ GotI2 w' B v (Lib.compact l)) ∧ Below B w w' := by
 have hlen := Lib.compact_length_le l
 rcases h.2 with ⟨rfl, h0⟩ | ⟨g, cap, cur, rfl, hb, hg, hnc, hcm, hcs, htk⟩
 ·obtain rfl := List.length_eq_zero_iff.1 h0
  refine (Any.slices_Compact_int_empty lays2_20 none 0 w).mono ?_
  rintro e w' ⟨rfl, rfl⟩
  exact ⟨⟨_, rfl, got2_nil _ _⟩, Below.refl _ _⟩
 ·have hcl : ∀ j, j < l.length → w.cell? ⟨g, 0 + j, none⟩ = some (.int .i64 (l.getD j 0)) := fun j hj => by
   have := h.cells (g := g) rfl j _ (ic_get hj)
   simp [Addr.add] at this
   rw [Nat.zero_add]
   split at this
   ·rename_i h0; subst h0; simpa [nth, List.getD] using this
   ·simpa [nth, List.getD] using this
  have hfz : ∀ j, j < l.length → w.frozen? ⟨g, 0 + j, none⟩ = false := fun j hj => h.frozenAt _
  refine (Any.slices_Compact_int_cells lays2_20 g 0 l.length cap l w (Nat.le_refl _) (by omega) hnc hcl hfz).mono ?_
  rintro e w' ⟨rfl, q, rfl⟩
  rw [List.take_length]
  have hB : Below B w ((w.drewN q).setCells g 0 ((Lib.compact l ++ List.replicate (l.length - (Lib.compact l).length) 0).map (Value.int .i64))) := blw_set hb _ 0 _ (below_dN (Below.refl _ _) q)
  refine ⟨⟨_, rfl, _, cap, rfl, (fun e => by cases e), ?_, fun a e => by cases e; exact hb⟩, hB⟩
  refine ⟨by omega, fun hn => ⟨g, 0, rfl, Nat.lt_of_lt_of_le (Array.getElem?_eq_some_iff.1 hg).1 hB.size, fun k hk => ?_⟩⟩
  have := World.cell?_setCells_in g ((Lib.compact l ++ List.replicate (l.length - (Lib.compact l).length) 0).map (Value.int .i64)) 0 (w.drewN q) (fun j hj => by
   have := hcl j (by simp at hj; omega)
   rw [show (w.drewN q).cell? ⟨g, 0 + j, none⟩ = w.cell? ⟨g, 0 + j, none⟩ from (below_dN (Below.refl (w.heap.size) w) q).cell (p := ⟨g, 0 + j, none⟩) (Array.getElem?_eq_some_iff.1 hg).1, this]; rfl) k (by simp; omega)
  rw [this, List.getElem_map]
  simp [nth, List.getD, List.getElem_append_left hk, List.getElem?_eq_getElem hk]

set_option maxHeartbeats 1000000 in
theorem equal_any (a b : List Int) (A1 A2 : Option Addr) (c1 c2 : Nat) (w : World) (h1 : IntsAt w w.heap.size A1 a) (h2 : IntsAt w w.heap.size A2 b) :
  Calls Tryz.prog 35 #[.slice A1 a.length c1, .slice A2 b.length c2] w fun e w' => e = .returned (.bool (decide (a = b))) ∧ Below w.heap.size w w' := by
 have l1 := h1.len
 have l2 := h2.len
 by_cases hl : a.length = b.length
 ·have hd : ((a.length : Int) != (b.length : Int)) = false := by simp [hl]
  have Hl := Lib.hid hl
  clear hl
  go_enter Tryz.func35, Tryz.ntmps35
  go_wp2
  go_loopw [13] (fun i wr => ∃ k : Nat, k ≤ a.length ∧ i = .int .i64 k ∧ (∀ j, j < k → nth a j = nth b j) ∧ Below w.heap.size w wr) (fun i _ => a.length - (intOf i).toNat)
  case atStart => exact ⟨0, by omega, rfl, fun j hj => absurd hj (by omega), Below.refl _ _⟩
  case round =>
   obtain ⟨k, hk, rfl, hok, hbel⟩ := hrel
   have Hok := Lib.hid hok
   clear hok
   by_cases hlt : k < a.length
   ·have hlt2 : k < b.length := by have := Hl.out; omega
    obtain ⟨b1, o1, rfl, hb1, hc1⟩ := h1.at_ hlt
    obtain ⟨b2, o2, rfl, hb2, hc2⟩ := h2.at_ hlt2
    have d1 := (hbel.cell (p := ⟨b1, o1 + k, none⟩) hb1).trans (hc1 k hlt)
    have d2 := (hbel.cell (p := ⟨b2, o2 + k, none⟩) hb2).trans (hc2 k hlt2)
    have g1 : (k : Int) < a.length := by omega
    have g2 : (k : Int) < b.length := by omega
    clear hc1 hc2
    by_cases q0 : nth a k = nth b k
    ·have e0 : (nth a k != nth b k) = false := by simpa using q0
     have Q0 := Lib.hid q0
     clear q0
     go_wp2_with fail
     go_quiet (fail)
     go_wp2
     go_roundw
     case rel => exact ⟨k + 1, by omega, by go_num, fun j hj => by rcases Nat.lt_succ_iff_lt_or_eq.1 hj with h | rfl; exact Hok.out j h; exact Q0.out, by exact bel⟩
     case measure => simp [intOf]; omega
    ·have e0 : (nth a k != nth b k) = true := by simpa using q0
     have Hf := Lib.hid (show decide (a = b) = false by simp only [decide_eq_false_iff_not]; intro h; exact q0 (by rw [h]))
     clear q0
     go_wp2_with fail
     go_quiet (fail)
     go_wp2
     go_ret
     exact ⟨bool_ret Hf.out.symm, by exact bel⟩
   ·have Ht := Lib.hid (show decide (a = b) = true by simp only [decide_eq_true_eq]; exact nth_ext Hl.out fun j hj => Hok.out j (by omega))
    go_wp2
    go_ret
    exact ⟨bool_ret Ht.out.symm, by exact bel⟩
 ·have hd : ((a.length : Int) != (b.length : Int)) = true := by simp; omega
  have Hf := Lib.hid (show decide (a = b) = false by simp only [decide_eq_false_iff_not]; intro h; exact hl (by rw [h]))
  clear hl
  go_enter Tryz.func35, Tryz.ntmps35
  go_wp2
  go_ret
  exact ⟨bool_ret Hf.out.symm, by exact bel⟩

end Go.Proofs.YtaampjhdgeoicaaGreat
