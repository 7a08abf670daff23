/- Texts laid together: VbJ, VbK, AppN, VbL, VbM. -/
import Derived.Test.YtlkebhiaimijiaaGreatDoorNgE
import Derived.Test.YtlkebhiaimijiaaGreatDoorVbD
import Derived.Lib.OwnBridge
import Derived.Deep.LoopGhost
import Derived.Deep.CutBlock
import Derived.Test.YtlkebhiaimijiaaGreatDoorNgA
import Derived.Maps.AppendAt
import Derived.Laws.AppendOwnNone
import Derived.Deep.RegionHeld3
import Derived.Deep.AppendLies
import Derived.Laws.OwnMore
import Derived.Test.YtlkebhiaimijiaaGreatDoorNgC
namespace Go.Proofs.YtlkebhiaimijiaaGreatDoor
set_option linter.unusedSimpArgs false
set_option linter.unusedVariables false
section
open Go Go.RowKit
set_option linter.unusedVariables false

theorem own_putRow {w : World} {base : Nat} {e : TypeId} {g n cap q k : Nat} {xs : List Value} {F : Array Value} (h : w.ownsRow base e k (.slice (some ⟨g, 0, none⟩) n cap) n xs) (hF : F.size = n * k) :
  (Sort.putRow id (Sort.ahead w q) g 0 F).ownsRow base e k (.slice (some ⟨g, 0, none⟩) n cap) n F.toList := by
 rcases h.2 with ⟨e0, _⟩ | ⟨g', cap', cur, e0, hb, hg, hn, hm, hs, ht⟩
 ·cases e0
 ·injection e0 with e1 _ e3
  injection e1 with e1
  injection e1 with e1
  subst e1; subst e3
  have hle : n * k ≤ cap * k := Nat.mul_le_mul_right _ hn
  refine ⟨by simpa using hF, .inr ⟨g, cap, Sort.putCells id 0 F cur, rfl, hb, ?_, hn, hm, by simpa [Sort.putCells] using hs, ?_⟩⟩
  ·simp [Sort.putRow, Sort.mapBlock, Sort.ahead, Array.getElem?_modify, hg, Sort.onCells]
  ·apply List.ext_getElem?
   intro j
   rw [List.getElem?_take, Array.getElem?_toList, Array.getElem?_toList]
   by_cases hj : j < n * k
   ·have hjc : j < cur.size := by omega
    simp only [if_pos hj, Sort.putCells, Array.getElem?_mapIdx, Array.getElem?_eq_getElem hjc, Option.map_some]
    rw [if_pos (by omega), Array.getElem?_eq_getElem (by omega)]
    simp [getElem!_pos, show j < F.size by omega]
   ·rw [if_neg hj, Array.getElem?_eq_none (by omega)]
theorem own_growV {w : World} {os : Array Obj} {B s n : Nat} {e : TypeId} {v : Value} {xs : List Value} (h : w.ownsRow B e s v n xs) : (Sort.grow w os).ownsRow B e s v n xs := by
 rcases h.2 with ⟨rfl, h0⟩ | ⟨g, cap, cur, rfl, hB, hg, hh⟩
 ·exact ⟨h.1, .inl ⟨rfl, h0⟩⟩
 ·exact ⟨h.1, .inr ⟨g, cap, cur, rfl, hB, (Sort.heap_grow_old _ _ (Array.getElem?_eq_some_iff.1 hg).1).trans hg, hh⟩⟩
theorem kb_putRow {w : World} {g q : Nat} {F : Array Value} {os : Array Obj} : Kb (fun b => b = g) w (Sort.grow (Sort.putRow id (Sort.ahead w q) g 0 F) os) := by
 have hsz : (Sort.putRow id (Sort.ahead w q) g 0 F).heap.size = w.heap.size := by simp [Sort.putRow, Sort.mapBlock, Sort.ahead]
 refine ⟨rfl, rfl, rfl, by rw [Sort.size_grow, hsz]; exact Nat.le_add_right _ _, fun k hk hne => ?_⟩
 rw [Sort.heap_grow_old _ _ (by omega)]
 have hne : g ≠ k := fun e => hne e.symm
 simp [Sort.putRow, Sort.mapBlock, Sort.ahead, Array.getElem?_modify, hne]

def encF (x : Fct) : List Value := [.int .i64 x.1, .int .i64 x.2]
theorem flat_fcs (p : List Fct) : (Sort.flatK encF 2 p.toArray).toList = fcs p := by
 apply List.ext_getElem?
 intro j
 by_cases hj : j < p.length * 2
 ·obtain ⟨h0, h1⟩ := fcs_get p (j / 2) (by omega)
  have hk : j / 2 < p.length := by omega
  have hb : p.toArray[j / 2]! = (fv p (j / 2), fx p (j / 2)) := by
   rw [getElem!_pos p.toArray (j / 2) (by simpa using hk)]
   simpa using fct_get hk
  have hg := Sort.get_flatK encF 2 p.toArray j (by simpa using hj)
  rw [Array.getElem?_toList, Array.getElem?_eq_getElem (by simpa using hj)]
  rw [getElem!_pos _ j (by simpa using hj), hb] at hg
  rw [hg]
  rcases Nat.mod_two_eq_zero_or_one j with e | e
  ·rw [e]
   rw [show j / 2 * 2 = j by omega] at h0
   rw [h0]; rfl
  ·rw [e]
   rw [show j / 2 * 2 + 1 = j by omega] at h1
   rw [h1]; rfl
 ·rw [List.getElem?_eq_none (by simp; omega), List.getElem?_eq_none (by rw [fcs_len]; omega)]
theorem holdsK_of_own {w : World} {B g n cap : Nat} {p : List Fct} (h : w.ownsRow B 68 2 (.slice (some ⟨g, 0, none⟩) n cap) n (fcs p)) : Sort.HoldsK encF 2 w g 0 p.toArray := by
 intro j hj
 have hl : j < (fcs p).length := by rw [fcs_len]; simpa using hj
 have e1 : (Sort.flatK encF 2 p.toArray)[j]! = (fcs p)[j] := by
  rw [getElem!_pos _ j hj]
  have := flat_fcs p
  rw [← Array.getElem_toList]
  simp only [this]
 rw [Nat.zero_add, e1]
 refine ⟨own_cell h (List.getElem?_eq_getElem hl), ?_⟩
 obtain ⟨R, hbx, _⟩ := own_box h
 exact hbx.fz _
theorem swoF : Sort.SWO (ltOf cmpF) where
 irrefl x := by unfold ltOf; simp [cmpF_lt]
 trans x y z h1 h2 := by unfold ltOf at *; simp only [decide_eq_true_eq, cmpF_lt] at *; omega
 ntrans x y z h1 h2 := by unfold ltOf at *; simp only [decide_eq_false_iff_not, cmpF_lt] at *; omega
theorem srtF_of {d : Array Fct} (h : Sort.SortedIn (ltOf cmpF) 0 d.size d) : SrtF d.toList := by
 unfold SrtF
 rw [List.pairwise_iff_getElem]
 intro i j hi hj hij
 have := h i j (Nat.zero_le _) hij (by simpa using hj)
 unfold ltOf at this
 rw [decide_eq_false_iff_not, getElem!_pos d j (by simpa using hj), getElem!_pos d i (by simpa using hi)] at this
 simpa using this
theorem perm_of {α : Type} [Inhabited α] {d d' : Array α} (h : Sort.PermIn 0 d.size d d') : d'.toList.Perm d.toList := by
 obtain ⟨h1, _, h3⟩ := h
 have e1 : (d'.extract 0 d.size).toList = d'.toList := by rw [← h1]; simp
 have e2 : (d.extract 0 d.size).toList = d.toList := by simp
 rwa [e1, e2] at h3
/-- slices.SortFunc of a row of facts of the call's own. -/
theorem sortF_any {w : World} {B : Nat} {A : Option Addr} {c : Nat} {p : List Fct} (h : w.ownsRow B 68 2 (.slice A p.length c) p.length (fcs p)) (hl : p.length ≤ 1000000) :
  Calls Tryz.prog 165 #[.slice A p.length c, .func (.func 166) #[] #[]] w fun e w' => e = .returned (.tuple #[]) ∧ (∃ S : List Fct, S.Perm p ∧ SrtF S ∧ w'.ownsRow B 68 2 (.slice A p.length c) p.length (fcs S)) ∧ Kb (fun b => (Value.slice A p.length c).ownBlock = some b) w w' := by
 by_cases h0 : p = []
 ·subst h0
  refine (AnyF.slices_SortFunc_none Tryz.laysSF A c (.func (.func 166) #[] #[]) w).mono ?_
  rintro e w' ⟨rfl, rfl⟩
  exact ⟨rfl, ⟨[], List.Perm.refl _, List.Pairwise.nil, h⟩, Kb.refl _ _⟩
 ·obtain ⟨g, rfl⟩ : ∃ g, A = some ⟨g, 0, none⟩ := by
   rcases h.2 with ⟨e, hz⟩ | ⟨g, cap, cur, e, _⟩
   ·exact absurd (List.length_eq_zero_iff.1 hz) h0
   ·injection e with e; exact ⟨g, e⟩
  have hg := (h.lt g rfl).2
  have eg : ∀ args w, (callFunc 166 args).run Tryz.prog w = .ok (.enter 166 args) w := enters_of Tryz.func166 (by kernel_rfl) rfl
  have hc : CmpLays Tryz.prog 166 #[] encF 2 cmpF g 0 p.toArray.size w := fun m os dk hs x y => by
   have := makeClo_any x y (sortWorldK encF 2 w g 0 m dk os)
   simpa [encF, GrowsTo] using this
  have hh := AnyQ.slices_SortFunc Tryz.laysSF 2 Tryz.isAgg68 Tryz.sizeOf68 encF (fun _ => rfl) (fun x v hv => by simp [encF] at hv; rcases hv with rfl | rfl <;> rfl) cmpF swoF 166 #[] g 0 c p.toArray w eg hc (holdsK_of_own h) hg (by simp; omega)
  have hsz : p.toArray.size = p.length := by simp
  rw [hsz] at hh
  refine Calls.mono hh ?_
  rintro e w' ⟨rfl, d', n, os, hp, hs, rfl⟩
  rw [← hsz] at hp hs
  have hpl := perm_of hp
  have hd : d'.size = p.length := by have := hpl.length_eq; simpa using this
  refine ⟨rfl, ⟨d'.toList, hpl, ?_, ?_⟩, ?_⟩
  ·rw [← hp.1] at hs; exact srtF_of hs
  ·have ho := own_putRow (q := n) (F := Sort.flatK encF 2 d') h (by rw [Sort.size_flatK, hd])
   rw [show (Sort.flatK encF 2 d').toList = fcs d'.toList by rw [← flat_fcs]] at ho
   exact own_growV ho
  ·have := kb_putRow (w := w) (g := g) (q := n) (F := Sort.flatK encF 2 d') (os := os)
   exact ⟨this.os, this.tape, this.output, this.size, fun b hb hne => this.block b hb (fun e => hne (by rw [e]; rfl))⟩
end

section
open Go Go.RowKit
set_option linter.unusedVariables false

theorem eqlFc (a b c d : Int) (w : World) : (binOp .eql 68 (.agg #[.int .i64 a, .int .i64 b]) (.agg #[.int .i64 c, .int .i64 d])).run Tryz.prog w = .ok (.bool (decide (a = c) && decide (b = d))) w := by
 by_cases e1 : a = c
 ·by_cases e2 : b = d
  ·simp [go_sem, e1, e2]
  ·simp [go_sem, e1, e2]
 ·simp [go_sem, e1]
theorem neqFc (a b c d : Int) (w : World) : (binOp .neq 68 (.agg #[.int .i64 a, .int .i64 b]) (.agg #[.int .i64 c, .int .i64 d])).run Tryz.prog w = .ok (.bool (!(decide (a = c) && decide (b = d)))) w := by
 by_cases e1 : a = c
 ·by_cases e2 : b = d
  ·simp [go_sem, e1, e2]
  ·simp [go_sem, e1, e2]
 ·simp [go_sem, e1]
/-- Two facts of a list are equal. -/
def smA (S : List Fct) (i j : Nat) : Bool := decide (fv S i = fv S j) && decide (fx S i = fx S j)
theorem smA_iff {S : List Fct} {i j : Nat} (hi : i < S.length) (hj : j < S.length) : smA S i j = true ↔ S[i] = S[j] := by
 unfold smA
 rw [fct_get hi, fct_get hj, Prod.mk.injEq]
 simp
theorem cmpc_snoc : ∀ (l : List Fct) (x : Fct), cmpc (l ++ [x]) = cmpc l ++ (if l.getLast? = some x then [] else [x])
 | [], x => by simp [cmpc]
 | [a], x => by
  by_cases e : a = x
  ·simp [cmpc, e]
  ·simp [cmpc, e]
 | a :: b :: r, x => by
  have ih := cmpc_snoc (b :: r) x
  show cmpc (a :: b :: (r ++ [x])) = _
  have e1 : cmpc (a :: b :: (r ++ [x])) = if a = b then cmpc (b :: (r ++ [x])) else a :: cmpc (b :: (r ++ [x])) := rfl
  have e2 : cmpc (a :: b :: r) = if a = b then cmpc (b :: r) else a :: cmpc (b :: r) := rfl
  have e3 : cmpc (b :: (r ++ [x])) = cmpc (b :: r ++ [x]) := rfl
  rw [e1, e2, e3, ih, show (a :: b :: r).getLast? = (b :: r).getLast? by simp [List.getLast?_cons_cons]]
  split <;> simp
theorem cmpc_take {S : List Fct} {K : Nat} (h0 : 0 < K) (hK : K < S.length) : cmpc (S.take (K + 1)) = if smA S K (K - 1) then cmpc (S.take K) else cmpc (S.take K) ++ [(fv S K, fx S K)] := by
 have e1 : S.take (K + 1) = S.take K ++ [S[K]] := (List.take_append_getElem hK).symm
 have e2 : (S.take K).getLast? = some S[K - 1] := by
  rw [List.getLast?_eq_getElem?, List.length_take, show min K S.length = K by omega, List.getElem?_take, if_pos (by omega), List.getElem?_eq_getElem (by omega)]
 rw [e1, cmpc_snoc, e2, fct_get hK]
 by_cases h : smA S K (K - 1) = true
 ·rw [if_pos h, if_pos (by rw [← fct_get hK, ← (smA_iff hK (by omega)).1 h]), List.append_nil]
 ·rw [if_neg h, if_neg (fun e => h ((smA_iff hK (by omega)).2 (by rw [fct_get hK]; exact (Option.some.inj e).symm)))]
theorem cmpc_one {S : List Fct} (h : 0 < S.length) : cmpc (S.take 1) = S.take 1 := by
 cases S with
 | nil => simp at h
 | cons a r => rfl
theorem cmpc_le : ∀ l : List Fct, (cmpc l).length ≤ l.length
 | [] => Nat.le_refl _
 | [a] => Nat.le_refl _
 | a :: b :: r => by
  have ih := cmpc_le (b :: r)
  have e2 : cmpc (a :: b :: r) = if a = b then cmpc (b :: r) else a :: cmpc (b :: r) := rfl
  rw [e2]
  split
  ·simp at ih ⊢; omega
  ·simp at ih ⊢; omega
theorem own_cut {w : World} {B g n m cap k : Nat} {e : TypeId} {xs : List Value} (h : w.ownsRow B e k (.slice (some ⟨g, 0, none⟩) n cap) n xs) (hm : m ≤ n) : w.ownsRow B e k (.slice (some ⟨g, 0, none⟩) m cap) m (xs.take (m * k)) := by
 have hle : m * k ≤ n * k := Nat.mul_le_mul_right _ hm
 rcases h.2 with ⟨h0, _⟩ | ⟨b, cap', cur, h1, hb, hg, hnc, hcm, hcs, htk⟩
 ·cases h0
 ·injection h1 with h1 h2 h3
  injection h1 with h1
  injection h1 with h1 _ _
  subst h1 h3
  refine ⟨by rw [List.length_take, h.1]; omega, .inr ⟨g, cap, cur, rfl, hb, hg, by omega, hcm, hcs, ?_⟩⟩
  rw [← htk, List.take_take, Nat.min_eq_left hle]
/-- Cells of a row of the call's own are written. -/
theorem own_sets {w : World} {B g n cap k p : Nat} {e : TypeId} {X Y Z news : List Value} (h : w.ownsRow B e k (.slice (some ⟨g, 0, none⟩) n cap) n (X ++ Y ++ Z)) (hp : X.length = p) (hl : Y.length = news.length) :
  (w.setCells g p news).ownsRow B e k (.slice (some ⟨g, 0, none⟩) n cap) n (X ++ news ++ Z) := by
 obtain ⟨R, hbx, hR, hnc, hcm, hB, hg⟩ := own_box h
 have hxl := h.1
 subst hp
 have a := BxI.sets news w X Y (Z ++ R) hl (by simpa using hbx)
 have a' : BxI (w.setCells g X.length news) g e (X ++ news ++ Z ++ R).toArray := by simpa using a
 have hn : n * k + (cap - n) * k = cap * k := by rw [← Nat.add_mul, Nat.add_sub_cancel' hnc]
 simp only [List.length_append] at hxl
 exact own_of_box a' hB (by simp only [List.length_append]; omega) (by simp only [List.length_append, hR]; omega) hnc hcm
theorem zero_one {v z : Value} {n : Nat} (hz : ∀ u ∈ z.cells.toList, u.oneCell' = true) (h : v ∈ (Builtin.zeroCells z.cells n).toList) (h0 : 0 < z.cells.size) : v.oneCell' = true := by
 simp only [Builtin.zeroCells, Array.toList_map, List.mem_map] at h
 obtain ⟨i, _, rfl⟩ := h
 have hi : i % z.cells.size < z.cells.size := Nat.mod_lt _ h0
 rw [getElem!_pos z.cells (i % z.cells.size) hi]
 exact hz _ (by simp)
theorem run_clear_k {P : Program} (w : World) (t e ty : TypeId) (z : Value) (ht : P.underlying t = some (.slice e)) (hv : ∀ w, (zeroValue e).run P w = .ok z w) (b o n c : Nat) (hn : 0 < n) (h1 : ∀ u ∈ z.cells.toList, u.oneCell' = true) (h0 : 0 < z.cells.size)
  (hc : ∀ j, j < n * z.cells.size → (w.cell? ⟨b, o + j, none⟩).isSome = true) (hf : ∀ j, j < n * z.cells.size → w.frozen? ⟨b, o + j, none⟩ = false) :
  (Builtin.clear_ #[t] ty #[.slice (some ⟨b, o, none⟩) n c]).run P w = .ok (.tuple #[]) (w.setCells b o (Builtin.zeroCells z.cells n).toList) := by
 have hl : (Builtin.zeroCells z.cells n).toList.length = n * z.cells.size := by simp [Builtin.zeroCells]
 have hst := run_storeCells_cells (P := P) b o (Builtin.zeroCells z.cells n).toList 0 w (by rw [hl]; simpa using hc) (by rw [hl]; simpa using hf) (fun v hv => zero_one h1 hv h0)
 obtain ⟨m, rfl⟩ : ∃ m, n = m + 1 := ⟨n - 1, by omega⟩
 simp only [Nat.add_zero] at hst
 simp [Builtin.clear_, run_underlying ht, hv, hst]
theorem fv_tail {kept S : List Fct} {K : Nat} (h : kept.length ≤ K) : fv (kept ++ S.drop kept.length) K = fv S K ∧ fx (kept ++ S.drop kept.length) K = fx S K := by
 unfold fv fx
 have e : (kept ++ S.drop kept.length)[K]? = S[K]? := by rw [List.getElem?_append_right h, List.getElem?_drop, Nat.add_sub_cancel' h]
 simp only [List.getD, e]
 exact ⟨trivial, trivial⟩
theorem zeroFct (w : World) : (zeroValue 68).run Tryz.prog w = .ok (.agg #[.int .i64 0, .int .i64 0]) w := by
 obtain ⟨i, hi, h0, h1, h2⟩ := info_parts ninfF
 simp [zeroValue, typeInfo, hi, h0]

set_option maxRecDepth 20000 in
set_option maxHeartbeats 8000000 in
theorem compact_any {w : World} {B : Nat} {A : Option Addr} {c : Nat} {S : List Fct} (h : w.ownsRow B 68 2 (.slice A S.length c) S.length (fcs S)) (hl : S.length ≤ 1000000) :
  Calls Tryz.prog 167 #[.slice A S.length c] w fun e w' =>
   (e = .returned (.slice A (cmpc S).length c) ∧ w'.ownsRow B 68 2 (.slice A (cmpc S).length c) (cmpc S).length (fcs (cmpc S))) ∧ Kb (fun b => (Value.slice A S.length c).ownBlock = some b) w w' := by
 by_cases h2 : S.length < 2
 ·have hc : cmpc S = S := by
   match S, h2 with
   | [], _ => rfl
   | [a], _ => rfl
   | a :: b :: r, h => simp at h; omega
  have HO := Lib.hid h
  rw [hc]
  clear h hc
  go_enter Tryz.func167, Tryz.ntmps167
  go_wp2
  go_ret
  exact ⟨⟨rfl, HO.out⟩, Kb.refl _ _⟩
 ·obtain ⟨g, rfl⟩ : ∃ g, A = some ⟨g, 0, none⟩ := by
   rcases h.2 with ⟨e, hz⟩ | ⟨g, cap, cur, e, _⟩
   ·omega
   ·injection e with e; exact ⟨g, e⟩
  obtain ⟨R, hbx, hR, hnc, hcm, hB, hg⟩ := own_box h
  have hcm' : c ≤ 9223372036854775807 := by unfold maxLen at hcm; omega
  have HO := Lib.hid h
  obtain ⟨n, hn⟩ : ∃ n, n = S.length := ⟨_, rfl⟩
  have HN := Lib.hid hn
  rw [← hn] at h2 hl hnc HO ⊢
  clear h hbx hR hn hcm
  go_enter Tryz.func167, Tryz.ntmps167
  go_wp2_with fail
  go_loopw [3] (fun i wr => ∃ k : Nat, i = .int .i64 k ∧ 1 ≤ k ∧ k ≤ n ∧ Hid (cmpc (S.take k) = S.take k) ∧ Hid (Below w.heap.size w wr)) (fun i _ => n - (intOf i).toNat)
  case atStart => exact ⟨1, rfl, by omega, by omega, Lib.hid (cmpc_one (by rw [← HN.out]; omega)), Lib.hid (Below.refl _ _)⟩
  case round =>
   obtain ⟨k, rfl, hk1, hkn, HC, HE⟩ := hrel
   obtain ⟨wt, rfl⟩ : ∃ wt : World, wt = wr := ⟨_, rfl⟩
   have hzt := HE.out.size
   have HOt := Lib.hid (own_below HO.out HE.out)
   by_cases hlt : k < n
   ·obtain ⟨m, hm⟩ : ∃ m, m = k - 1 := ⟨_, rfl⟩
    have hk2 : (k : Int) - 1 = (m : Int) := by omega
    have hmn : m < n := by omega
    have hlt' : k < S.length := by rw [← HN.out]; exact hlt
    obtain ⟨a1, a2⟩ := fcs_get S k hlt'
    obtain ⟨b1, b2⟩ := fcs_get S m (by rw [← HN.out]; exact hmn)
    have d1 := own_cell HOt.out a1
    have d2 := own_cell HOt.out a2
    have d3 := own_cell HOt.out b1
    have d4 := own_cell HOt.out b2
    have heq := eqlFc (fv S k) (fx S k) (fv S m) (fx S m)
    have hsm : smA S k m = (decide (fv S k = fv S m) && decide (fx S k = fx S m)) := rfl
    have HT := Lib.hid (cmpc_take (S := S) (K := k) (by omega) hlt')
    rw [← hsm] at heq
    have HM := Lib.hid hm
    clear a1 a2 b1 b2 hm hsm
    cases e1 : smA S k m
    ·rw [e1] at heq
     go_wp2
     go_quiet (fail)
     go_wp2
     go_roundw
     case rel => exact ⟨k + 1, by go_num, by omega, by omega, Lib.hid (by rw [HT.out, ← HM.out, if_neg (by rw [e1]; simp), HC.out, ← fct_get hlt', List.take_append_getElem hlt']), Lib.hid (below_dN HE.out _)⟩
     case measure => simp [intOf]; omega
    ·rw [e1] at heq
     have hck : ¬ c = k := by omega
     have hkn2 : (k : Int) ≤ (n : Int) := by omega
     go_wp2
     go_quiet (fail)
     clear d1 d2 d3 d4 heq
     go_wp2_with fail
     obtain ⟨wq, hwq⟩ : ∃ wq, wq = wt.drewN nq := ⟨_, rfl⟩
     rw [← hwq]
     have HEq := Lib.hid (show Below w.heap.size w wq by rw [hwq]; exact below_dN HE.out _)
     have HK1 := Lib.hid (show cmpc (S.take (k + 1)) = S.take k by rw [HT.out, ← HM.out, if_pos e1, HC.out])
     have HKL := Lib.hid (show (S.take k).length = k by rw [List.length_take]; omega)
     have HO1 := Lib.hid (show wq.ownsRow B 68 2 (.slice (some ⟨g, 0, none⟩) n c) n (fcs (S.take k ++ S.drop (S.take k).length)) by rw [HKL.out, List.take_append_drop]; exact own_below HO.out HEq.out)
     have hkn3 : k + 1 ≤ n := by omega
     clear hwq e1 HT HM hmn hlt hlt' hk2
     go_loopw [3, 5] (fun v3 v5 wr => ∃ (q j : Nat) (kept : List Fct), v3 = .int .i64 q ∧ v5 = .int .i64 j ∧ 1 ≤ j ∧ k + j ≤ n ∧ q < k + j ∧ Hid (kept = cmpc (S.take (k + j))) ∧ Hid (kept.length = q) ∧ Hid (wr.ownsRow B 68 2 (.slice (some ⟨g, 0, none⟩) n c) n (fcs (kept ++ S.drop kept.length))) ∧ Hid (Kb (fun b => b = g) w wr)) (fun _ v5 _ => n - k - (intOf v5).toNat)
     case atStart => exact ⟨k, 1, S.take k, rfl, rfl, by omega, by omega, by omega, Lib.hid HK1.out.symm, HKL, HO1, Lib.hid (Kb.of_below HEq.out)⟩
     case round =>
      obtain ⟨q, j, kept, rfl, rfl, hj1, hjn, hqj, HKP, HKL2, HOr, HKr⟩ := hrel
      obtain ⟨wu, rfl⟩ : ∃ wu : World, wu = wr := ⟨_, rfl⟩
      by_cases hlt2 : k + j < n
      ·obtain ⟨m, hm⟩ : ∃ m, m = j - 1 := ⟨_, rfl⟩
       have hj2 : (j : Int) - 1 = (m : Int) := by omega
       have hjlt : j < n - k := by omega
       have hmlt : m < n - k := by omega
       have hjl2 : (j : Int) < ((n - k : Nat) : Int) := by omega
       have hKS : k + j < S.length := by rw [← HN.out]; exact hlt2
       have hxl : (kept ++ S.drop kept.length).length = n := by rw [List.length_append, List.length_drop, ← HN.out, HKL2.out]; omega
       obtain ⟨a1, a2⟩ := fcs_get (kept ++ S.drop kept.length) (k + j) (by omega)
       obtain ⟨b1, b2⟩ := fcs_get (kept ++ S.drop kept.length) (k + m) (by omega)
       obtain ⟨f1, f2⟩ := fv_tail (kept := kept) (S := S) (K := k + j) (by rw [HKL2.out]; omega)
       obtain ⟨f3, f4⟩ := fv_tail (kept := kept) (S := S) (K := k + m) (by rw [HKL2.out]; omega)
       rw [f1] at a1
       rw [f2] at a2
       rw [f3] at b1
       rw [f4] at b2
       have d1 := own_cell HOr.out a1
       have d2 := own_cell HOr.out a2
       have d3 := own_cell HOr.out b1
       have d4 := own_cell HOr.out b2
       rw [Nat.add_mul] at d1 d2 d3 d4
       have heq := neqFc (fv S (k + j)) (fx S (k + j)) (fv S (k + m)) (fx S (k + m))
       have hsm : smA S (k + j) (k + m) = (decide (fv S (k + j) = fv S (k + m)) && decide (fx S (k + j) = fx S (k + m))) := rfl
       have HT := Lib.hid (cmpc_take (S := S) (K := k + j) (by omega) hKS)
       rw [← hsm] at heq
       have HM := Lib.hid (show k + j - 1 = k + m by omega)
       clear a1 a2 b1 b2 hm hsm f1 f2 f3 f4
       cases e1 : smA S (k + j) (k + m)
       ·rw [e1] at heq
        obtain ⟨x1, hx1⟩ : ∃ x, x = fv S (k + j) := ⟨_, rfl⟩
        obtain ⟨x2, hx2⟩ : ∃ x, x = fx S (k + j) := ⟨_, rfl⟩
        rw [← hx1] at d1 heq
        rw [← hx2] at d2 heq
        have HX := Lib.hid (show (x1, x2) = (fv S (k + j), fx S (k + j)) by rw [hx1, hx2])
        clear hx1 hx2
        have hqn : q < n := by omega
        have hqn2 : (q : Int) < (n : Int) := by omega
        go_wp2
        go_quiet (fail)
        go_wp2_with (refine wpList_stores (by rfl) 68 _ _ (by rfl) g (q * 2) [.int .i64 x1, .int .i64 x2] (by rfl) (by rfl) (there_own (own_below HOr.out (below_dN (Below.refl _ _) _)) (by simp; omega)) nsizF (by intro u hu; simp at hu; rcases hu with rfl | rfl <;> rfl) ?_; intro wx HWX)
        go_roundw
        case rel =>
         refine ⟨q + 1, j + 1, kept ++ [(x1, x2)], by go_num, by go_num, by omega, by omega, by omega, Lib.hid ?_, Lib.hid (by rw [List.length_append, HKL2.out]; rfl), Lib.hid ?_, Lib.hid ?_⟩
         ·rw [show k + (j + 1) = k + j + 1 by omega, HT.out, HM.out, if_neg (by rw [e1]; simp), ← HKP.out, HX.out]
         ·have e2 : S.drop kept.length = (x1, x2) :: S.drop (kept.length + 1) ∨ True := .inr trivial
          have hsp : kept ++ S.drop kept.length = kept ++ [S[kept.length]'(by rw [HKL2.out, ← HN.out]; omega)] ++ S.drop (kept.length + 1) := by
           rw [List.append_assoc]; congr 1
           exact (List.getElem_cons_drop (by rw [HKL2.out, ← HN.out]; omega)).symm
          have ho := HOr.out
          rw [hsp, fcs_app, fcs_app] at ho
          have ho2 := own_sets (p := q * 2) (news := [.int .i64 x1, .int .i64 x2]) (own_below ho (below_dN (Below.refl _ _) nq)) (by rw [fcs_len, HKL2.out]) (by rw [fcs_len]; rfl)
          rw [HWX.out, List.length_append, fcs_app, fcs_app]
          exact ho2
         ·rw [HWX.out]
          exact (HKr.out.up (below_dN (Below.refl _ _) nq)).trans (kbV_sets _ _ _)
        case measure => simp [intOf]; omega
       ·rw [e1] at heq
        go_wp2
        go_quiet (fail)
        go_wp2
        go_roundw
        case rel => exact ⟨q, j + 1, kept, rfl, by go_num, by omega, by omega, by omega, Lib.hid (by rw [show k + (j + 1) = k + j + 1 by omega, HT.out, HM.out, if_pos e1]; exact HKP.out), HKL2, Lib.hid (own_below HOr.out (below_dN (Below.refl _ _) _)), Lib.hid (HKr.out.up (below_dN (Below.refl _ _) _))⟩
        case measure => simp [intOf]; omega
      ·have hkj : k + j = n := by omega
       have Hfin := Lib.hid (show cmpc S = kept by
        have : S.take (k + j) = S := List.take_of_length_le (by rw [← HN.out]; omega)
        rw [HKP.out, this])
       have hcq : ¬ c = q := by omega
       have hqn2 : (q : Int) ≤ (n : Int) := by omega
       have hjge : ¬ (j : Int) < ((n - k : Nat) : Int) := by omega
       have hjge2 : ¬ j < n - k := by omega
       have hth := there_own (i := q * 2) (m := (n - q) * 2) HOr.out (by omega)
       have hcl := fun (ty : TypeId) => run_clear_k (P := Tryz.prog) wu 23 68 ty (.agg #[.int .i64 0, .int .i64 0]) nundF zeroFct g (q * 2) (n - q) (c - q) (by omega) (by intro u hu; simp [Value.cells] at hu; subst hu; rfl) (by simp [Value.cells]) (fun t ht => (hth t (by simpa [Value.cells] using ht)).1) (fun t ht => (hth t (by simpa [Value.cells] using ht)).2)
       obtain ⟨zs, hzs⟩ : ∃ zs, zs = (Builtin.zeroCells (Value.cells (.agg #[.int .i64 0, .int .i64 0])) (n - q)).toList := ⟨_, rfl⟩
       have hzl : zs.length = (n - q) * 2 := by rw [hzs]; simp [Builtin.zeroCells, Value.cells]
       rw [← hzs] at hcl
       obtain ⟨wx, hwx⟩ : ∃ wx, wx = wu.setCells g (q * 2) zs := ⟨_, rfl⟩
       rw [← hwx] at hcl
       have HOx := Lib.hid (show wx.ownsRow B 68 2 (.slice (some ⟨g, 0, none⟩) q c) q (fcs kept) by
        have ho := HOr.out
        rw [fcs_app, ← List.append_nil (fcs kept ++ _)] at ho
        have h2 := own_sets (p := q * 2) (news := zs) ho (by rw [fcs_len, HKL2.out]) (by rw [fcs_len, hzl, List.length_drop, HKL2.out, ← HN.out])
        have h3 := own_cut (m := q) h2 (by omega)
        rw [List.append_nil, List.take_append_of_le_length (by rw [fcs_len, HKL2.out]; omega), List.take_of_length_le (by rw [fcs_len, HKL2.out]; omega)] at h3
        rw [hwx]; exact h3)
       have HKx := Lib.hid (show Kb (fun b => b = g) w wx by rw [hwx]; exact HKr.out.trans (kbV_sets _ _ _))
       clear hwx hzs hth
       go_wp2
       go_ret
       rw [Hfin.out, HKL2.out]
       exact ⟨⟨rfl, HOx.out⟩, HKx.out.os, HKx.out.tape, HKx.out.output, HKx.out.size, fun b hb hne => HKx.out.block b hb (fun e => hne (by rw [e]; rfl))⟩
   ·have Hfin := Lib.hid (show cmpc S = S by
     have : S.take k = S := List.take_of_length_le (by rw [← HN.out]; omega)
     have h := HC.out
     rwa [this] at h)
    go_wp2
    go_ret
    rw [Hfin.out, ← HN.out]
    exact ⟨⟨rfl, HOt.out⟩, Kb.of_below HE.out⟩
end

section
open Go.RowKit

/-- A slice whose cells hold the values news (size cells an element). -/
structure SrcNt (w : World) (A : Option Addr) (m c size : Nat) (news : List Value) : Prop where
 none : A = none → m = 0
 len : news.length = m * size
 cells : ∀ ad, A = some ad → ∀ j u, news[j]? = some u → w.cell? (ad.add j) = some u
 one : ∀ u ∈ news, u.oneCell' = true

section
variable {P : Program} {w : World}
theorem run_append_none (base : Nat) (t ty e : TypeId) (i : TypeInfo) (size : Nat) (ht : P.underlying t = some (.slice e)) (hi : P.info? e = some i)
  (v : Value) (n : Nat) (xs : List Value) (hown : w.ownsRow base e size v n xs) (c : Nat) :
  (Builtin.append_ #[t, t] ty #[v, .slice none 0 c]).run P w = .ok v w := by
 rcases hown.2 with ⟨rfl, rfl⟩ | ⟨g, cap, cur, rfl, _, _, hnc, _⟩
 ·simp [Builtin.append_, run_underlying ht, sizeOf, typeInfo, hi, Builtin.lenOf, Builtin.firstCells]
 ·simp [Builtin.append_, run_underlying ht, sizeOf, typeInfo, hi, Builtin.lenOf, Builtin.firstCells, hnc, storeCells]
theorem grown_refl' (row : Option Nat) : w.grownBy w row := ⟨rfl, rfl, rfl, Nat.le_refl _, fun _ _ _ => rfl⟩

theorem wp_append_srn {o : Oper} {a : Act} {K : Act → World → Prop} {Q : Exit → Act → World → Prop} (s x : Operand) (t : TypeId)
  (ho : o.op = .call { callee := .builtin .append, args := #[s, x], argTypes := #[t, t] })
  (base : Nat) (e : TypeId) (i : TypeInfo) (z : Value) (size bytes : Nat) (ht : P.underlying t = some (.slice e)) (hi : P.info? e = some i) (hz : i.zero = some z)
  (hsize : i.size = size) (hby : i.bytes = bytes) (hzs : z.cells.size = size) (hsz : 0 < size)
  (v : Value) (n : Nat) (xs : List Value) (hs : a.eval s = v) (hown : w.ownsRow base e size v n xs)
  (A : Option Addr) (m c : Nat) (news : List Value) (hx : a.eval x = .slice A m c) (hsrc : SrcNt w A m c size news)
  (h63 : n + m ≤ maxLen) (hbytes : (n + m) * bytes ≤ 140737488355328) (hbase : base ≤ w.heap.size)
  (h : ∀ v' w', w'.ownsRow base e size v' (n + m) (xs ++ news) → w.grownBy w' v.ownBlock → (v'.ownBlock = v.ownBlock ∨ v'.ownBlock = some w.heap.size) → K (a.put o.dst v') w') : o.wp P a w K Q := by
 cases A with
 | none =>
  obtain rfl := hsrc.none rfl
  have hn : news = [] := List.length_eq_zero_iff.1 (by rw [hsrc.len]; simp)
  subst hn
  have hr := run_append_none (P := P) (w := w) base t o.type e i size ht hi v n xs hown c
  unfold Oper.wp execOp
  simp only [ho, resolve, invoke, builtin, Sem.run_bind, Sem.run_pure, Result.andThen_ok, List.map_toArray, List.map_cons, List.map_nil, hs, hx, hr]
  exact h v w (by simpa using hown) (grown_refl' _) (.inl rfl)
 | some ad =>
  obtain ⟨v', w', hr, h2, h3, _, h5⟩ := run_append_own_at (P := P) w base t o.type e i z size bytes ht hi hz hsize hby hzs hsz v n xs hown ad m c news hsrc.len (hsrc.cells ad rfl) hsrc.one h63 hbytes hbase
  unfold Oper.wp execOp
  simp only [ho, resolve, invoke, builtin, Sem.run_bind, Sem.run_pure, Result.andThen_ok, List.map_toArray, List.map_cons, List.map_nil, hs, hx, hr]
  exact h v' w' h2 h3 h5

theorem wpList_append_srn {ops : Array Oper} {rest : List Oper} {o : Oper} {a : Act} {Q : Exit → Act → World → Prop} (hgd : o.guard = .none) (s x : Operand) (t : TypeId)
  (ho : o.op = .call { callee := .builtin .append, args := #[s, x], argTypes := #[t, t] })
  (base : Nat) (e : TypeId) (i : TypeInfo) (z : Value) (size bytes : Nat) (ht : P.underlying t = some (.slice e)) (hi : P.info? e = some i) (hz : i.zero = some z)
  (hsize : i.size = size) (hby : i.bytes = bytes) (hzs : z.cells.size = size) (hsz : 0 < size)
  (v : Value) (n : Nat) (xs : List Value) (hs : a.eval s = v) (hown : w.ownsRow base e size v n xs)
  (A : Option Addr) (m c : Nat) (news : List Value) (hx : a.eval x = .slice A m c) (hsrc : SrcNt w A m c size news)
  (h63 : n + m ≤ maxLen) (hbytes : (n + m) * bytes ≤ 140737488355328) (hbase : base ≤ w.heap.size)
  (h : ∀ v' w', w'.ownsRow base e size v' (n + m) (xs ++ news) → w.grownBy w' v.ownBlock → (v'.ownBlock = v.ownBlock ∨ v'.ownBlock = some w.heap.size) → wpList P ops Q rest (a.put o.dst v') w') :
  wpList P ops Q (o :: rest) a w :=
 wpList_plain hgd fun _ hK => wp_append_srn s x t ho base e i z size bytes ht hi hz hsize hby hzs hsz v n xs hs hown A m c news hx hsrc h63 hbytes hbase fun v' w' h2 h3 h4 => hK _ _ (h v' w' h2 h3 h4)

theorem step_append_srn {ops : Array Oper} {o : Oper} {a : Act} {K : Act → World → Prop} {Q : Exit → Act → World → Prop} {E : Prop} (hgd : o.guard = .none) (s x : Operand) (t : TypeId)
  (ho : o.op = .call { callee := .builtin .append, args := #[s, x], argTypes := #[t, t] })
  (base : Nat) (e : TypeId) (i : TypeInfo) (z : Value) (size bytes : Nat) (ht : P.underlying t = some (.slice e)) (hi : P.info? e = some i) (hz : i.zero = some z)
  (hsize : i.size = size) (hby : i.bytes = bytes) (hzs : z.cells.size = size) (hsz : 0 < size)
  (v : Value) (n : Nat) (xs : List Value) (hs : a.eval s = v) (hown : w.ownsRow base e size v n xs)
  (A : Option Addr) (m c : Nat) (news : List Value) (hx : a.eval x = .slice A m c) (hsrc : SrcNt w A m c size news)
  (h63 : n + m ≤ maxLen) (hbytes : (n + m) * bytes ≤ 140737488355328) (hbase : base ≤ w.heap.size)
  (h : ∀ v' w', w'.ownsRow base e size v' (n + m) (xs ++ news) → w.grownBy w' v.ownBlock → (v'.ownBlock = v.ownBlock ∨ v'.ownBlock = some w.heap.size) → K (a.put o.dst v') w') :
  if Region.wanted o (yielded ops a.tmps) = true then Oper.wp P o a w K Q else E := by
 have hw : Region.wanted o (yielded ops a.tmps) = true := by simp [Region.wanted, hgd]
 rw [if_pos hw]
 exact wp_append_srn s x t ho base e i z size bytes ht hi hz hsize hby hzs hsz v n xs hs hown A m c news hx hsrc h63 hbytes hbase h
end

theorem fcl_len (l : List (Int × Int)) : (fcl l).length = l.length * 2 := by
 induction l with
 | nil => rfl
 | cons f l ih => show (_ :: _ :: fcl l).length = _; simp only [List.length_cons, ih]; omega
theorem fcl_at {l : List (Int × Int)} {j : Nat} {u : Value} (h : (fcl l)[j]? = some u) : ∃ k, k < l.length ∧ ((j = k * 2 ∧ u = .int .i64 (fv l k)) ∨ (j = k * 2 + 1 ∧ u = .int .i64 (fx l k))) := by
 have hj : j < (fcl l).length := (List.getElem?_eq_some_iff.1 h).1
 rw [fcl_len] at hj
 refine ⟨j / 2, by omega, ?_⟩
 obtain ⟨h1, h2⟩ := fcl_get l (j / 2) (by omega)
 rcases Nat.mod_two_eq_zero_or_one j with e | e
 ·have e2 : j = j / 2 * 2 := by omega
  rw [← e2] at h1; rw [h1] at h; cases h; exact .inl ⟨e2, rfl⟩
 ·have e2 : j = j / 2 * 2 + 1 := by omega
  rw [← e2] at h2; rw [h2] at h; cases h; exact .inr ⟨e2, rfl⟩
/-- Facts as a source. -/
theorem facts_srn {w : World} {B : Nat} {A : Option Addr} {l : List (Int × Int)} {c : Nat} (h : FactsAt w B A l) : SrcNt w A l.length c 2 (fcl l) where
 none := fun e => by
  rcases Nat.eq_zero_or_pos l.length with h0 | h0
  ·exact h0
  ·obtain ⟨b, off, e2, _⟩ := h.2 h0; rw [e] at e2; cases e2
 len := fcl_len l
 cells := fun ad e j u hj => by
  obtain ⟨k, hk, hu⟩ := fcl_at hj
  obtain ⟨b, off, e2, _, hc⟩ := h.2 (by omega)
  rw [e] at e2
  cases e2
  rcases hu with ⟨rfl, rfl⟩ | ⟨rfl, rfl⟩
  ·have h1 := (hc k hk).1
   simp [Addr.add]
   split
   ·rename_i h0; have : k = 0 := by omega
    subst this; simpa using h1
   ·simpa using h1
  ·have h1 := (hc k hk).2
   simpa [Addr.add, Nat.add_assoc] using h1
 one := fun u hu => by
  obtain ⟨j, hj, e⟩ := List.mem_iff_getElem.1 hu
  obtain ⟨k, hk, hh⟩ := fcl_at (l := l) (j := j) (u := u) (by rw [List.getElem?_eq_getElem hj, e])
  rcases hh with ⟨_, rfl⟩ | ⟨_, rfl⟩ <;> rfl
theorem src_ofN {W : World} {H size : Nat} {T : TypeId} {vals : List Value} (hH : W.heap[H]? = some (.cells vals.toArray T (0, 0))) (hl : vals.length = size) (h1 : ∀ u ∈ vals, u.oneCell' = true) : SrcNt W (some ⟨H, 0, none⟩) 1 1 size vals where
 none := fun e => nomatch e
 len := by omega
 cells := fun ad e => by
  cases e
  intro j u hj
  have h2 := cell_of_row W H j vals.toArray T (0, 0) hH
  rw [show vals.toArray[j]? = some u by simpa using hj] at h2
  simp only [Addr.add]
  split
  ·rename_i h0; subst h0; exact h2
  ·rw [Nat.zero_add]; exact h2
 one := h1
end

section
open Go Go.RowKit
set_option linter.unusedVariables false

theorem fcl_fcs (l : List Fct) : fcl l = fcs l := rfl
/-- What Make returns of facts without negative numbers. -/
def MakeRet (w : World) (f : List Fct) (e : Ending) (w' : World) : Prop :=
 ∃ S : List Fct, S.Perm f ∧ SrtF S ∧ ((vaB (cmpc S) = true ∧ ∃ A c, e = .returned (.tuple #[.slice A (cmpc S).length c, .nilIface]) ∧ w'.ownsRow w.heap.size 68 2 (.slice A (cmpc S).length c) (cmpc S).length (fcs (cmpc S))) ∨ (vaB (cmpc S) = false ∧ e = .returned (.tuple #[.slice none 0 0, .iface 49 (.int .i64 2)])))

set_option maxRecDepth 20000 in
set_option maxHeartbeats 4000000 in
theorem make_any (f : List Fct) (A : Option Addr) (c : Nat) (w : World) (h : FactsAt w w.heap.size A f) (hp : Pos f) (hl : f.length ≤ 1000000) :
  Calls Tryz.prog 146 #[.slice A f.length c] w fun e w' => MakeRet w f e w' ∧ Below w.heap.size w w' := by
 have H := Lib.hid h
 have HP := Lib.hid hp
 clear h hp
 go_enter Tryz.func146, Tryz.ntmps146
 go_wp2
 go_loopw [9] (fun i wr => ∃ k : Nat, k ≤ f.length ∧ i = .int .i64 k ∧ Hid (Below w.heap.size w wr)) (fun i _ => f.length - (intOf i).toNat)
 case atStart => exact ⟨0, by omega, rfl, Lib.hid (Below.refl _ _)⟩
 case round =>
  obtain ⟨k, hk, rfl, HE⟩ := hrel
  obtain ⟨wt, rfl⟩ : ∃ wt : World, wt = wr := ⟨_, rfl⟩
  have hbz := HE.out.size
  by_cases hlt : k < f.length
  ·obtain ⟨b, o, rfl, hb, hc⟩ := H.out.at_ hlt
   have d1 := (HE.out.cell (p := ⟨b, o + k * 2, none⟩) hb).trans (hc k hlt).1
   have d2 := (HE.out.cell (p := ⟨b, o + k * 2 + 1, none⟩) hb).trans (hc k hlt).2
   have g2 : b < wt.heap.size := by omega
   obtain ⟨p1, p2⟩ := HP.out _ (fct_mem hlt)
   dsimp only at p1 p2
   have e0 : decide (fv f k < 0) = false := by simpa using p1
   have e1 : decide (fx f k < 0) = false := by simpa using p2
   clear hc
   go_wp2
   go_roundw
   case rel => exact ⟨k + 1, by omega, by go_num, Lib.hid (HE.out.alloc hbz _)⟩
   case measure => simp [intOf]; omega
  ·go_wp2_with fail
   refine (cloneFac_any f A c wt (H.out.up HE.out) hl).mono ?_
   rintro e w2 ⟨⟨A2, c2, rfl, hown2⟩, hb2⟩
   have HB2 := Lib.hid (show Below w.heap.size w w2 from HE.out.trans (hb2.mono hbz))
   have HO2 := Lib.hid (own_base hown2 hbz)
   have hz2 := hb2.size
   clear hb2 hown2
   go_wp2_with fail
   refine (sortF_any HO2.out hl).mono ?_
   rintro e w3 ⟨rfl, ⟨S, hperm, hsrt, hown3⟩, hk3⟩
   have hlen := hperm.length_eq
   rw [← hlen] at hown3
   have HB3 := Lib.hid (show Below w.heap.size w w3 from HB2.out.trans (hk3.below (fun b hb hh => by have := (HO2.out.lt b hh).1; omega) (by omega)))
   have HO3 := Lib.hid hown3
   have HPE := Lib.hid hperm
   have HSR := Lib.hid hsrt
   have hz3 := HB3.out.size
   have HLE := Lib.hid hlen
   clear hperm hsrt hown3 hk3
   rw [← hlen] at hl ⊢
   clear hlen
   go_wp2_with fail
   refine (compact_any HO3.out hl).mono ?_
   rintro e w4 ⟨⟨rfl, hown4⟩, hk4⟩
   have HB4 := Lib.hid (show Below w.heap.size w w4 from HB3.out.trans (hk4.below (fun b hb hh => by have := (HO3.out.lt b hh).1; omega) (by omega)))
   have HO4 := Lib.hid hown4
   have hz4 := HB4.out.size
   have hcl := cmpc_le S
   obtain ⟨A4, c4, e4, hf4⟩ := own_facV (bad := fun _ => False) hown4 (by omega) (fun _ _ h => h)
   injection e4 with e4 _ e5
   subst e4 e5
   have HF4 := Lib.hid hf4.at_
   clear hown4 hk4 hf4
   go_wp2_with fail
   refine (valid_any (cmpc S) A2 c2 w4 HF4.out).mono ?_
   rintro e w5 ⟨rfl, hb5⟩
   have HB5 := Lib.hid (show Below w.heap.size w w5 from HB4.out.trans (hb5.mono (by omega)))
   have HO5 := Lib.hid (own_below HO4.out hb5)
   clear hb5 hcl
   cases e1 : vaB (cmpc S)
   ·go_wp2
    refine bodyPost_ret (v := .tuple #[.slice none 0 0, .iface 49 (.int .i64 2)]) (by simp [results, Tryz.results146, go_sem]) rfl ⟨⟨S, HPE.out, HSR.out, .inr ⟨e1, rfl⟩⟩, HB5.out⟩
   ·go_wp2
    refine bodyPost_ret (v := .tuple #[.slice A2 (cmpc S).length c2, .nilIface]) (by simp [results, Tryz.results146, go_sem]) rfl ⟨⟨S, HPE.out, HSR.out, .inl ⟨e1, A2, c2, rfl, HO5.out⟩⟩, HB5.out⟩

/-- What Join returns. -/
def JoinRet (w : World) (a b : List Fct) (e : Ending) (w' : World) : Prop :=
 (∃ z A c, mrg a b = some z ∧ e = .returned (.tuple #[.slice A z.length c, .bool true]) ∧ Fac w' (fun b => b < w.heap.size) A z) ∨ (mrg a b = none ∧ e = .returned (.tuple #[.slice none 0 0, .bool false]))

set_option maxRecDepth 20000 in
set_option maxHeartbeats 4000000 in
theorem pjoin_any (a b : List Fct) (A1 A2 : Option Addr) (c1 c2 : Nat) (w : World) (h1 : FactsAt w w.heap.size A1 a) (h2 : FactsAt w w.heap.size A2 b) (va : vaB a = true) (vb : vaB b = true) (hl1 : a.length ≤ 1000) (hl2 : b.length ≤ 1000) :
  Calls Tryz.prog 121 #[.slice A1 a.length c1, .slice A2 b.length c2] w fun e w' => JoinRet w a b e w' ∧ Below w.heap.size w w' := by
 have H1 := Lib.hid h1
 have H2 := Lib.hid h2
 obtain ⟨inf, hinf, iz0, iz1, iz2⟩ := info_parts ninfF
 have K1 := Lib.hid (valid_any a A1 c1 w h1)
 have HVA := Lib.hid va
 have HVB := Lib.hid vb
 clear h1 h2
 rw [va] at K1
 go_enter Tryz.func121, Tryz.ntmps121
 go_wp2_with fail
 refine K1.out.mono ?_
 rintro e w1 ⟨rfl, hb1⟩
 have HB1 := Lib.hid (show Below w.heap.size w w1 from hb1)
 have hz1 := hb1.size
 have K2 := Lib.hid (valid_any b A2 c2 w1 (H2.out.up hb1))
 rw [vb] at K2
 clear hb1 K1
 go_wp2_with fail
 refine K2.out.mono ?_
 rintro e w2 ⟨rfl, hb2⟩
 have HB2 := Lib.hid (show Below w.heap.size w w2 from HB1.out.trans (hb2.mono hz1))
 have hz2 := HB2.out.size
 clear hb2 K2 va vb
 go_wp2_with fail
 refine (cloneFac_any a A1 c1 w2 (H1.out.up HB2.out) (by omega)).mono ?_
 rintro e w3 ⟨⟨A3, c3, rfl, hown3⟩, hb3⟩
 have HB3 := Lib.hid (show Below w.heap.size w w3 from HB2.out.trans (hb3.mono hz2))
 have HO3 := Lib.hid (own_base hown3 hz2)
 have hz3 := HB3.out.size
 clear hown3 hb3
 go_wp2_with (first | (at_builtin; refine wpList_append_srn (by rfl) _ _ 23 (by rfl) w.heap.size 68 inf (.agg #[.int .i64 0, .int .i64 0]) 2 16 nundF hinf iz0 iz1 iz2 rfl (by decide) (.slice A3 a.length c3) a.length (fcs a) (by rfl) HO3.out A2 b.length c2 (fcl b) (by rfl) (facts_srn (H2.out.up HB3.out)) (by unfold maxLen; omega) (by omega) hz3 ?_; intro v4 w4 hown4 hgrow4 _; obtain ⟨A4, c4, rfl⟩ := own_shape hown4; have HO4 := Lib.hid hown4; have HB4 := Lib.hid (show Below w.heap.size w w4 from HB3.out.grown hgrow4 hz3 (fun b hb => (HO3.out.lt b hb).1)); clear hown4 hgrow4))
 have hz4 := HB4.out.size
 have hlen : (a ++ b).length = a.length + b.length := List.length_append
 have ho4 := HO4.out
 rw [fcl_fcs, ← fcs_app, ← hlen] at ho4
 obtain ⟨A5, c5, e5, hf5⟩ := own_facV (bad := fun _ => False) ho4 (by omega) (fun _ _ h => h)
 injection e5 with e5 e6 e7
 subst e5 e7
 have hpos : Pos (a ++ b) := fun x hx => by
  rcases List.mem_append.1 hx with h | h
  ·exact (va_iff.1 HVA.out).2 x h
  ·exact (va_iff.1 HVB.out).2 x h
 have hm := make_any (a ++ b) A4 c4 w4 hf5.at_ hpos (by omega)
 rw [hlen] at hm
 have KM := Lib.hid hm
 clear hm hf5 hpos ho4 hlen
 refine KM.out.mono ?_
 rintro e w6 ⟨⟨S, hperm, hsrt, hcase⟩, hb6⟩
 have HB6 := Lib.hid (show Below w.heap.size w w6 from HB4.out.trans (hb6.mono hz4))
 have HMR := Lib.hid (make_mrg hsrt hperm (va_iff.1 HVA.out).1 (va_iff.1 HVB.out).1 (va_iff.1 HVA.out).2 (va_iff.1 HVB.out).2)
 have hcl : (cmpc S).length ≤ 2000 := by have := cmpc_le S; have := hperm.length_eq; rw [List.length_append] at this; omega
 rcases hcase with ⟨hv, A7, c7, rfl, hown7⟩ | ⟨hv, rfl⟩
 ·have HO7 := Lib.hid (own_base hown7 hz4)
  have HV := Lib.hid hv
  clear hb6 hown7 hsrt hperm hv KM
  go_wp2
  go_quiet (fail)
  go_wp2
  obtain ⟨A8, c8, e8, hf8⟩ := own_facV (bad := fun b => b < w.heap.size) HO7.out (by omega) (fun g hg hh => by have := (HO7.out.lt g hg).1; omega)
  injection e8 with e8 _ e9
  subst e8 e9
  refine bodyPost_ret (v := .tuple #[.slice A7 (cmpc S).length c7, .bool true]) (by simp [results, Tryz.results121, go_sem]) rfl ⟨.inl ⟨cmpc S, A7, c7, by rw [HMR.out, if_pos HV.out], rfl, hf8.up (below_dN (Below.refl _ _) _)⟩, below_dN HB6.out _⟩
 ·have HV := Lib.hid hv
  clear hb6 hsrt hperm hv KM
  go_wp2
  go_quiet (fail)
  go_wp2
  refine bodyPost_ret (v := .tuple #[.slice none 0 0, .bool false]) (by simp [results, Tryz.results121, go_sem]) rfl ⟨.inr ⟨by rw [HMR.out, if_neg (by rw [HV.out]; simp)], rfl⟩, below_dN HB6.out _⟩
end

section
open Go Go.RowKit
set_option linter.unusedVariables false

theorem drop_fct {a : List Fct} {k : Nat} (h : k < a.length) : a.drop k = (fv a k, fx a k) :: a.drop (k + 1) := by
 rw [← fct_get h]; exact (List.getElem_cons_drop h).symm
theorem cmpL_cons (x y : Fct) (a b : List Fct) : cmpL (x :: a) (y :: b) = if cmpF x y ≠ 0 then cmpF x y else cmpL a b := rfl

set_option maxRecDepth 20000 in
set_option maxHeartbeats 4000000 in
theorem cmpfunc_any (a b : List Fct) (A1 A2 : Option Addr) (c1 c2 : Nat) (w : World) (h1 : FactsAt w w.heap.size A1 a) (h2 : FactsAt w w.heap.size A2 b) :
  Calls Tryz.prog 103 #[.slice A1 a.length c1, .slice A2 b.length c2, .func (.func 104) #[] #[]] w fun e w' => e = .returned (.int .i64 (cmpL a b)) ∧ GrowsTo w w' := by
 have l1 := h1.len
 have l2 := h2.len
 have H1 := Lib.hid h1
 have H2 := Lib.hid h2
 clear h1 h2
 go_enter Tryz.func103, Tryz.ntmps103
 go_wp2
 go_loopw [13] (fun i wr => ∃ k : Nat, k ≤ a.length ∧ k ≤ b.length ∧ i = .int .i64 k ∧ Hid (cmpL a b = cmpL (a.drop k) (b.drop k)) ∧ Hid (GrowsTo w wr)) (fun i _ => a.length - (intOf i).toNat)
 case atStart => exact ⟨0, by omega, by omega, rfl, Lib.hid rfl, Lib.hid (GrowsTo.refl _)⟩
 case round =>
  obtain ⟨k, hk1, hk2, rfl, HC, HE⟩ := hrel
  obtain ⟨wt, rfl⟩ : ∃ wt : World, wt = wr := ⟨_, rfl⟩
  have hbl := HE.out.below
  have hbz := hbl.size
  by_cases hlt : k < a.length
  ·obtain ⟨p1, o1, hA1, hp1, hc1⟩ := H1.out.at_ hlt
   have d1 := (hbl.cell (p := ⟨p1, o1 + k * 2, none⟩) hp1).trans (hc1 k hlt).1
   have d2 := (hbl.cell (p := ⟨p1, o1 + k * 2 + 1, none⟩) hp1).trans (hc1 k hlt).2
   have g1 : p1 < wt.heap.size := by omega
   clear hc1
   subst hA1
   by_cases hlt2 : k < b.length
   ·obtain ⟨p2, o2, hA2, hp2, hc2⟩ := H2.out.at_ hlt2
    have d3 := (hbl.cell (p := ⟨p2, o2 + k * 2, none⟩) hp2).trans (hc2 k hlt2).1
    have d4 := (hbl.cell (p := ⟨p2, o2 + k * 2 + 1, none⟩) hp2).trans (hc2 k hlt2).2
    have g2 : p2 < wt.heap.size := by omega
    clear hc2
    subst hA2
    have HD := Lib.hid (show cmpL a b = if cmpF (fv a k, fx a k) (fv b k, fx b k) ≠ 0 then cmpF (fv a k, fx a k) (fv b k, fx b k) else cmpL (a.drop (k + 1)) (b.drop (k + 1)) by rw [HC.out, drop_fct hlt, drop_fct hlt2, cmpL_cons])
    have hge : decide (b.length ≤ k) = false := by simpa using hlt2
    go_wp2_with fail
    refine (cmpClo_any (fv a k, fx a k) (fv b k, fx b k) _).mono ?_
    rintro e w3 ⟨rfl, hg3⟩
    have HG3 := Lib.hid (show GrowsTo w w3 from ((HE.out.alloc _).alloc _).trans hg3)
    clear hg3 d1 d2 d3 d4
    obtain ⟨r, hr⟩ : ∃ r, r = cmpF (fv a k, fx a k) (fv b k, fx b k) := ⟨_, rfl⟩
    rw [← hr] at HD ⊢
    clear hr
    by_cases h0 : r = 0
    ·subst h0
     go_wp2
     go_roundw
     case rel => exact ⟨k + 1, by omega, by omega, by go_num, Lib.hid (by rw [HD.out, if_neg (by simp)]), HG3⟩
     case measure => simp [intOf]; omega
    ·go_wp2
     go_ret
     exact ⟨ret_int (by rw [HD.out, if_pos h0]), HG3.out⟩
   ·have HD := Lib.hid (show cmpL a b = 1 by rw [HC.out, drop_fct hlt, List.drop_eq_nil_of_le (by omega : b.length ≤ k)]; rfl)
    have hge : decide (b.length ≤ k) = true := by simpa using hlt2
    go_wp2
    go_ret
    exact ⟨ret_int HD.out.symm, HE.out.alloc _⟩
  ·have hka : k = a.length := by omega
   have HD := Lib.hid (show cmpL a b = cmpL [] (b.drop k) by rw [HC.out, List.drop_eq_nil_of_le (by omega : a.length ≤ k)])
   by_cases hlt2 : a.length < b.length
   ·have HD2 := Lib.hid (show cmpL a b = -1 by rw [HD.out, drop_fct (by omega : k < b.length)]; rfl)
    go_wp2
    go_ret
    exact ⟨ret_int HD2.out.symm, HE.out⟩
   ·have HD2 := Lib.hid (show cmpL a b = 0 by rw [HD.out, List.drop_eq_nil_of_le (by omega : b.length ≤ k)]; rfl)
    go_wp2
    go_ret
    exact ⟨ret_int HD2.out.symm, HE.out⟩
theorem rcompare_any (a b : List Fct) (A1 A2 : Option Addr) (c1 c2 : Nat) (w : World) (h1 : FactsAt w w.heap.size A1 a) (h2 : FactsAt w w.heap.size A2 b) :
  Calls Tryz.prog 74 #[.slice A1 a.length c1, .slice A2 b.length c2] w fun e w' => e = .returned (.int .i64 (cmpL a b)) ∧ GrowsTo w w' := by
 have K := Lib.hid (cmpfunc_any a b A1 A2 c1 c2 w h1 h2)
 clear h1 h2
 go_enter Tryz.func74, Tryz.ntmps74
 go_wp2_with fail
 refine K.out.mono ?_
 rintro e w1 ⟨rfl, hg⟩
 go_wp2
 go_ret
 exact ⟨rfl, hg⟩
end

end Go.Proofs.YtlkebhiaimijiaaGreatDoor
