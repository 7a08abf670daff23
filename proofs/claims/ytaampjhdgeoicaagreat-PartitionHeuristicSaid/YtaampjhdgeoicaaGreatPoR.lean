/- The reference's Optimal: the rows that it keeps are the program's (plain); column, same. -/
import Derived.Test.YtaampjhdgeoicaaGreatMfA
import Derived.Test.YtaampjhdgeoicaaGreatPoC
import Derived.Test.YtaampjhdgeoicaaGreatMvG
namespace Go.Proofs.YtaampjhdgeoicaaGreat
set_option linter.unusedSimpArgs false
set_option linter.unusedVariables false
open Go Go.RowKit
set_option linter.unusedVariables false

/-- Another operation's row is the same and better. -/
def wrB (costs : List Int) (l : List Cut) (o t : Nat) : Bool := decide (lnL l t l.length = lnL l o l.length) && (decide (nth costs t < nth costs o) || (decide (nth costs t = nth costs o) && decide (t < o)))
def bdB (costs : List Int) (l : List Cut) (o : Nat) : Bool := anyB costs.length (wrB costs l o)
def rfK (costs : List Int) (l : List Cut) : Nat → List Nat
 | 0 => []
 | k + 1 => if anyIn l k && !bdB costs l k then rfK costs l k ++ [k] else rfK costs l k
theorem rfK_yes {costs : List Int} {l : List Cut} {k : Nat} (h : (anyIn l k && !bdB costs l k) = true) : rfK costs l (k + 1) = rfK costs l k ++ [k] := by rw [show rfK costs l (k + 1) = if anyIn l k && !bdB costs l k then rfK costs l k ++ [k] else rfK costs l k from rfl, if_pos h]
theorem rfK_no {costs : List Int} {l : List Cut} {k : Nat} (h : (anyIn l k && !bdB costs l k) = false) : rfK costs l (k + 1) = rfK costs l k := by rw [rfK, h]; rfl
theorem rfK_le (costs : List Int) (l : List Cut) : ∀ k, (rfK costs l k).length ≤ k
 | 0 => Nat.le_refl _
 | k + 1 => by
  have h := rfK_le costs l k
  cases e : (anyIn l k && !bdB costs l k)
  ·rw [rfK_no e]; omega
  ·rw [rfK_yes e, List.length_append]; simp; omega
theorem opsK_filter (l : List Cut) : ∀ k, opsK l k = (List.range k).filter (anyIn l)
 | 0 => rfl
 | k + 1 => by
  rw [List.range_succ, List.filter_append, ← opsK_filter l k]
  cases e : anyIn l k
  ·rw [opsK_no e]; simp [e]
  ·rw [opsK_yes e]; simp [e]
theorem rfK_filter (costs : List Int) (l : List Cut) : ∀ k, rfK costs l k = (List.range k).filter (fun o => anyIn l o && !bdB costs l o)
 | 0 => rfl
 | k + 1 => by
  rw [List.range_succ, List.filter_append, ← rfK_filter costs l k]
  cases e : (anyIn l k && !bdB costs l k)
  ·rw [rfK_no e]; simp [e]
  ·rw [rfK_yes e]; simp [e]
theorem opA_get {ol : List Nat} {i : Nat} (h : i < ol.length) : opA ol i = ol[i] := by unfold opA; simp [List.getD, h]
theorem kpK_filter {costs : List Int} {l : List Cut} {ol : List Nat} (hb : ∀ i, i < ol.length → btR costs l ol i = bdB costs l (opA ol i)) : ∀ k, k ≤ ol.length → kpK costs l ol k = (ol.take k).filter (fun o => !bdB costs l o)
 | 0, _ => rfl
 | k + 1, hk => by
  have h := kpK_filter hb k (by omega)
  rw [take_opA (by omega), List.filter_append, ← h]
  cases e : btR costs l ol k
  ·rw [kpK_yes e]
   rw [hb k (by omega)] at e
   simp [e]
  ·rw [kpK_no e]
   rw [hb k (by omega)] at e
   simp [e]
theorem lnL_iff {l : List Cut} {a b k : Nat} : lnL l a k = lnL l b k ↔ ∀ j, j < k → inF l a j = inF l b j := by
 constructor
 ·intro h j hj
  have h1 := (lnL_at (l := l) (o := a) hj).1
  have h2 := (lnL_at (l := l) (o := b) hj).1
  rw [h, h2] at h1
  cases e1 : inF l a j <;> cases e2 : inF l b j <;> simp [e1, e2] at h1 <;> rfl
 ·intro h
  unfold lnL
  exact List.map_congr_left fun j hj => by rw [h j (List.mem_range.1 hj)]
theorem neB_iff {f g : Nat → Bool} {n : Nat} : (!anyB n (neB f g)) = true ↔ ∀ j, j < n → g j = f j := by
 constructor
 ·intro h j hj
  cases e : anyB n (neB f g)
  ·have h1 : ¬ neB f g j = true := fun h2 => by rw [anyB_true.2 ⟨j, hj, h2⟩] at e; cases e
   unfold neB at h1
   cases e1 : f j <;> cases e2 : g j <;> simp [e1, e2] at h1 <;> rfl
  ·rw [e] at h; cases h
 ·intro h
  cases e : anyB n (neB f g)
  ·rfl
  ·obtain ⟨j, hj, h1⟩ := anyB_true.1 e
   unfold neB at h1
   rw [h j hj] at h1
   simp at h1
theorem anyIn_same {l : List Cut} {a b : Nat} (h : ∀ j, j < l.length → inF l a j = inF l b j) (hb : anyIn l b = true) : anyIn l a = true := by
 obtain ⟨j, hj, h1⟩ := anyB_true.1 hb
 exact anyB_true.2 ⟨j, hj, (h j hj).trans h1⟩
theorem opsK_mono (l : List Cut) (n : Nat) {i j : Nat} (hij : i < j) (hj : j < (opsK l n).length) : opA (opsK l n) i < opA (opsK l n) j := by
 rw [opA_get hj, opA_get (by omega)]
 have hp : (opsK l n).Pairwise (· < ·) := by rw [opsK_filter]; exact List.pairwise_lt_range.filter _
 exact List.pairwise_iff_getElem.1 hp i j _ _ hij
theorem opsK_surj {l : List Cut} {n t : Nat} (ht : t < n) (ha : anyIn l t = true) : ∃ j, j < (opsK l n).length ∧ opA (opsK l n) j = t := by
 have hm : t ∈ opsK l n := by rw [opsK_filter]; exact List.mem_filter.2 ⟨List.mem_range.2 ht, ha⟩
 obtain ⟨j, hj, e⟩ := List.getElem_of_mem hm
 exact ⟨j, hj, by rw [opA_get hj]; exact e⟩
theorem bt_bd (costs : List Int) (l : List Cut) {i : Nat} (hi : i < (opsK l costs.length).length) : btR costs l (opsK l costs.length) i = bdB costs l (opA (opsK l costs.length) i) := by
 obtain ⟨h1, h2⟩ := opsK_mem costs.length i hi
 rw [Bool.eq_iff_iff]
 unfold btR bdB
 constructor
 ·intro h
  obtain ⟨j, hj, hb⟩ := anyB_true.1 h
  unfold bwR at hb
  rw [Bool.and_eq_true, Bool.and_eq_true] at hb
  obtain ⟨⟨h3, h4⟩, h5⟩ := hb
  refine anyB_true.2 ⟨opA (opsK l costs.length) j, (opsK_mem costs.length j hj).1, ?_⟩
  unfold wrB
  rw [Bool.and_eq_true]
  refine ⟨decide_eq_true (lnL_iff.2 (neB_iff.1 h4)), ?_⟩
  rw [Bool.or_eq_true] at h5 ⊢
  rcases h5 with h5 | h5
  ·exact .inl h5
  ·rw [Bool.and_eq_true] at h5 ⊢
   exact .inr ⟨h5.1, decide_eq_true (opsK_mono l costs.length (of_decide_eq_true h5.2) hi)⟩
 ·intro h
  obtain ⟨t, ht, hb⟩ := anyB_true.1 h
  unfold wrB at hb
  rw [Bool.and_eq_true] at hb
  obtain ⟨h3, h5⟩ := hb
  have h4 := lnL_iff.1 (of_decide_eq_true h3)
  obtain ⟨j, hj, rfl⟩ := opsK_surj ht (anyIn_same h4 h2)
  refine anyB_true.2 ⟨j, hj, ?_⟩
  unfold bwR
  rw [Bool.and_eq_true, Bool.and_eq_true]
  have hji : ∀ {j : Nat}, opA (opsK l costs.length) j < opA (opsK l costs.length) i → j < (opsK l costs.length).length → j < i := fun {j} hlt hj => by
   rcases Nat.lt_trichotomy j i with e | e | e
   ·exact e
   ·subst e; omega
   ·have := opsK_mono l costs.length e hj; omega
  rw [Bool.or_eq_true] at h5 ⊢
  refine ⟨⟨decide_eq_true fun e => ?_, neB_iff.2 h4⟩, ?_⟩
  ·subst e
   rcases h5 with h5 | h5
   ·have := of_decide_eq_true h5; omega
   ·rw [Bool.and_eq_true] at h5
    have := of_decide_eq_true h5.2; omega
  ·rcases h5 with h5 | h5
   ·exact .inl h5
   ·rw [Bool.and_eq_true] at h5 ⊢
    exact .inr ⟨h5.1, decide_eq_true (hji (of_decide_eq_true h5.2) hj)⟩
/-- The reference keeps what the program keeps. -/
theorem rfK_kept (costs : List Int) (l : List Cut) : rfK costs l costs.length = keptL costs l := by
 unfold keptL
 rw [kpK_filter (fun i hi => bt_bd costs l hi) _ (Nat.le_refl _), List.take_length, rfK_filter, opsK_filter, List.filter_filter]
 exact List.filter_congr fun o _ => Bool.and_comm _ _

set_option maxRecDepth 4000 in
set_option maxHeartbeats 1000000 in
theorem rsame38_any (a b : List (Int × Int)) (A B : Option Addr) (c d : Nat) (w : World) (ha : FactsAt w w.heap.size A a) (hb : FactsAt w w.heap.size B b) (hl : a.length = b.length) :
  Calls Tryz.prog 50 #[.slice A a.length c, .slice B b.length d] w fun e w' => e = .returned (.bool (smB a b)) ∧ Below w.heap.size w w' := by
 have la := ha.len
 have lb := hb.len
 have hr : smB a b = !anyB a.length (dfB a b) := by unfold smB; rw [decide_eq_true hl, Bool.true_and]
 obtain ⟨r, hr2⟩ : ∃ r, r = smB a b := ⟨_, rfl⟩
 rw [← hr2]
 rw [← hr2] at hr
 have e1 : ((a.length : Int) == (b.length : Int)) = true := by simp; omega
 have Hr := Lib.hid hr
 have H1 := Lib.hid hl
 clear hr hr2 hl
 go_enter Tryz.func50, Tryz.ntmps50
 go_wp2
 go_loopw [8] (fun i wr => ∃ k : Nat, k ≤ a.length ∧ i = .int .i64 k ∧ Hid (anyB k (dfB a b) = false) ∧ Below w.heap.size w wr) (fun i _ => a.length - (intOf i).toNat)
 case atStart => exact ⟨0, by omega, rfl, rfl, Below.refl _ _⟩
 case round =>
  obtain ⟨k, hk, rfl, hB, hbel⟩ := hrel
  have hbz := hbel.size
  by_cases hlt : k < a.length
  ·obtain ⟨b1, o1, ea, hb1, hc1⟩ := ha.at_ hlt
   have hlt2 : k < b.length := by have := H1.out; omega
   obtain ⟨b2, o2, eb, hb2, hc2⟩ := hb.at_ hlt2
   subst ea eb
   have d1 := (hbel.cell (p := ⟨b1, o1 + k * 2, none⟩) hb1).trans (hc1 k hlt).1
   have d2 := (hbel.cell (p := ⟨b1, o1 + k * 2 + 1, none⟩) hb1).trans (hc1 k hlt).2
   have d3 := (hbel.cell (p := ⟨b2, o2 + k * 2, none⟩) hb2).trans (hc2 k hlt2).1
   have d4 := (hbel.cell (p := ⟨b2, o2 + k * 2 + 1, none⟩) hb2).trans (hc2 k hlt2).2
   have g1 : b1 < wr.heap.size := by omega
   have g2 : b2 < wr.heap.size := by omega
   have k0 : (0 : Int) ≤ (k : Int) := by omega
   have k1 : (k : Int) < (a.length : Int) := by omega
   have k2 : (k : Int) < (b.length : Int) := by omega
   have HS : Hid (anyB (k + 1) (dfB a b) = (anyB k (dfB a b) || dfB a b k)) := anyB_succ _ _
   have HD : Hid (dfB a b k = !(decide (fv a k = fv b k) && decide (fx a k = fx b k))) := rfl
   clear hc1 hc2
   have hq := neqF (fv a k) (fx a k) (fv b k) (fx b k)
   rw [← HD.out] at hq
   cases hd : dfB a b k
   ·rw [hd] at hq
    have Hs := Lib.hid (show anyB (k + 1) (dfB a b) = false by rw [HS.out, hB.out, hd]; rfl)
    clear hd
    go_wp2_with fail
    go_quiet (fail)
    go_wp2
    go_roundw
    case rel => exact ⟨k + 1, by omega, by go_num, Hs.out, below_dN hbel _⟩
    case measure => simp [intOf]; omega
   ·rw [hd] at hq
    have Hf := Lib.hid (show false = r by rw [Hr.out, anyB_true.2 ⟨k, hlt, hd⟩]; rfl)
    clear hd
    go_wp2_with fail
    go_quiet (fail)
    go_wp2
    go_ret
    exact ⟨by rw [← Hf.out]; rfl, below_dN hbel _⟩
  ·obtain rfl : a.length = k := by omega
   have Hr2 := Lib.hid (show true = r by rw [Hr.out, hB.out]; rfl)
   go_wp2
   go_ret
   exact ⟨by rw [← Hr2.out]; rfl, hbel⟩
theorem smB_iff {a b : List (Int × Int)} : smB a b = decide (a = b) := by
 by_cases h : a = b
 ·subst h; rw [smB_self, decide_eq_true rfl]
 ·rw [decide_eq_false h]
  cases e : smB a b
  ·rfl
  ·unfold smB at e
   rw [Bool.and_eq_true] at e
   have hl := of_decide_eq_true e.1
   refine absurd (fv_ext hl fun k hk => ?_) h
   have h1 : ¬ dfB a b k = true := fun h2 => by
    have := e.2
    rw [anyB_true.2 ⟨k, hk, h2⟩] at this
    cases this
   unfold dfB at h1
   simpa using h1
/-- A row that was made: its numbers, and its block's type. -/
def RwT (w : World) (B : Nat) (A : Option Addr) (c : Nat) (o : List (Int × Int)) : Prop := (A = none → c = 0) ∧ FactsAt w w.heap.size A o ∧ ∀ p, A = some p → (∃ cur u, w.heap[p.block]? = some (.cells cur 45 u)) ∧ B ≤ p.block
theorem RwT.up {w w' : World} {B c : Nat} {A : Option Addr} {o : List (Int × Int)} (h : RwT w B A c o) (hb : Below w.heap.size w w') : RwT w' B A c o :=
 ⟨h.1, factsAt_up h.2.1 hb, fun p hp => by
  obtain ⟨⟨cur, u, h5⟩, h6⟩ := h.2.2 p hp
  exact ⟨⟨cur, u, (hb.block _ (blk_lt h5)).trans h5⟩, h6⟩⟩
set_option maxRecDepth 4000 in
set_option maxHeartbeats 1000000 in
theorem column_any (l : List Cut) (o : Nat) (A : Option Addr) (c : Nat) (w : World) (h : CutsAt w w.heap.size A l) (hl : l.length ≤ 1000) :
  Calls Tryz.prog 49 #[.slice A l.length c, .int .i64 (o : Int)] w fun e w' => (∃ A' c', e = .returned (.tuple #[.slice A' l.length c', .bool (anyIn l o)]) ∧ RwT w' w.heap.size A' c' (lnL l o l.length)) ∧ Below w.heap.size w w' := by
 obtain ⟨inf, hi, iz0, iz1, iz2⟩ := info_parts infoC
 have KN := Lib.hid number_any
 have HR := Lib.hid (fun k (hk : k < l.length) S c2 q w4 (hS : IntsAt w4 w4.heap.size S (cut l k).ops) => (rin_any (cut l k).ops S c2 q o w4 hS : Calls Tryz.prog 45 #[.agg #[.slice S (cut l k).ops.length c2, .int .i64 q], .int .i64 o] w4 fun e w' => e = .returned (.bool (inF l o k)) ∧ Below w4.heap.size w4 w'))
 go_enter Tryz.func49, Tryz.ntmps49
 go_wp2
 go_loopw [6, 7, 12] (fun v g i wr => ∃ (k : Nat) (A' : Option Addr) (c' : Nat), k ≤ l.length ∧ i = .int .i64 k ∧ g = .bool (anyB k (inF l o)) ∧ v = .slice A' k c' ∧ Hid (wr.ownsRow w.heap.size 45 2 (.slice A' k c') (lnL l o k).length (fc (lnL l o k))) ∧ Below w.heap.size w wr) (fun _ _ i _ => l.length - (intOf i).toNat)
 case atStart => exact ⟨0, none, 0, by omega, rfl, rfl, rfl, Lib.hid (World.ownsRow_nil _ _ _ _), Below.refl _ _⟩
 case round =>
  obtain ⟨k, A', c', hk, rfl, rfl, rfl, hown, hbel⟩ := hrel
  obtain ⟨wt, hwt⟩ : ∃ wt : World, wt = wr := ⟨_, rfl⟩
  rw [← hwt] at hown hbel ⊢
  clear hwt
  have hbz := hbel.size
  have Hl1 := Lib.hid (lnL_len (l := l) (o := o) (k := k))
  have Hl2 := Lib.hid (lnL_len (l := l) (o := o) (k := k + 1))
  have HSc := Lib.hid (lnL_succ (l := l) (o := o) (k := k))
  by_cases hlt : k < l.length
  ·obtain ⟨b, o', S, c2, ea, hb, d0, hS, d1⟩ := h.at2 hbel hlt
   subst ea
   have g2 : b < wt.heap.size := by omega
   have j1 := hS.len
   have HA := Lib.hid (anyB_succ k (inF l o))
   have KI : Hid (∀ w4, Below w.heap.size w w4 → Calls Tryz.prog 45 #[.agg #[.slice S (cut l k).ops.length c2, .int .i64 (cut l k).cost], .int .i64 o] w4 fun e w' => e = .returned (.bool (inF l o k)) ∧ Below w4.heap.size w4 w') := Lib.hid (fun w4 (h4 : Below w.heap.size w w4) => HR.out k hlt S c2 (cut l k).cost w4 (hS.keep (fun _ hp => h4.cell hp) h4.size))
   obtain ⟨bt, hbt⟩ : ∃ bt, bt = inF l o k := ⟨_, rfl⟩
   rw [← hbt] at KI HSc HA
   obtain ⟨gk, hgk⟩ : ∃ gk, gk = anyB k (inF l o) := ⟨_, rfl⟩
   rw [← hgk] at HA ⊢
   clear hbt hgk hS
   go_wp2_with fail
   refine (KI.out _ (by exact bel)).mono ?_
   rintro e w5 ⟨rfl, hb5⟩
   have hb15 : Below w.heap.size w w5 := (hbel.alloc hbz _).trans (hb5.mono (by simp; omega))
   have z5 := hb15.size
   have Ho5 := Lib.hid (own_below (hown.out.alloc _) hb5)
   clear hb5 hown d0 d1
   cases bt
   all_goals
    simp only [if_true, if_false, Bool.false_eq_true, Bool.or_false, Bool.or_true] at HSc HA
    go_wp2_with fail
    refine (KN.out _ _).mono ?_
    rintro e w9 ⟨rfl, hb9⟩
    have hbj9 := hb15.trans (hb9.mono z5)
    have zj9 := hbj9.size
    have Ho6 := Lib.hid (own_below Ho5.out hb9)
    clear hb9
   ·go_wp2_with (at_builtin; refine wpList_push rfl _ _ 37 rfl w.heap.size 45 inf (.agg #[.int .i64 0, .int .i64 0]) 2 16 undC hi iz0 iz1 iz2 rfl (by decide) (by decide) _ (lnL l o k).length (fc (lnL l o k)) rfl (Ho6.out.alloc _) w9.heap.size 45 [.int .i64 0, .int .i64 1] rfl rfl (heap_alloc_new _ _) (two_one rfl rfl) (by have := Hl1.out; omega) (by first | omega | (simp; omega)) (B := w.heap.size) (W := w) (hbj9.alloc zj9 _) (Nat.le_refl _) ?_; intro v8' w8 ho8 hg8 hat8 hb8; have ho9 : w8.ownsRow w.heap.size 45 2 v8' (lnL l o (k + 1)).length (fc (lnL l o (k + 1))) := (by rw [HSc.out, List.length_append, fc_app]; exact ho8); obtain ⟨A8', c8', rfl⟩ := own_shapeL ho9 Hl2.out; have Ho9 := Lib.hid ho9; clear ho8 ho9 hg8 hat8)
    go_roundw
    case rel => exact ⟨k + 1, A8', c8', by omega, by go_num, by rw [HA.out], rfl, Ho9, hb8⟩
    case measure => simp [intOf]; omega
   ·go_wp2_with (at_builtin; refine wpList_push rfl _ _ 37 rfl w.heap.size 45 inf (.agg #[.int .i64 0, .int .i64 0]) 2 16 undC hi iz0 iz1 iz2 rfl (by decide) (by decide) _ (lnL l o k).length (fc (lnL l o k)) rfl (Ho6.out.alloc _) w9.heap.size 45 [.int .i64 1, .int .i64 1] rfl rfl (heap_alloc_new _ _) (two_one rfl rfl) (by have := Hl1.out; omega) (by first | omega | (simp; omega)) (B := w.heap.size) (W := w) (hbj9.alloc zj9 _) (Nat.le_refl _) ?_; intro v8' w8 ho8 hg8 hat8 hb8; have ho9 : w8.ownsRow w.heap.size 45 2 v8' (lnL l o (k + 1)).length (fc (lnL l o (k + 1))) := (by rw [HSc.out, List.length_append, fc_app]; exact ho8); obtain ⟨A8', c8', rfl⟩ := own_shapeL ho9 Hl2.out; have Ho9 := Lib.hid ho9; clear ho8 ho9 hg8 hat8)
    go_roundw
    case rel => exact ⟨k + 1, A8', c8', by omega, by go_num, by rw [HA.out], rfl, Ho9, hb8⟩
    case measure => simp [intOf]; omega
  ·obtain rfl : l.length = k := by omega
   have Hty := Lib.hid (fun p (hp : A' = some p) => own_blockTy (own_len hown.out Hl1.out) hp)
   obtain ⟨Aq, cq, e7, hzq, hFq⟩ := own_fracs hown.out (by have := Hl1.out; omega)
   injection e7 with e71 e72 e73
   subst e71 e73
   have HFq := Lib.hid hFq
   have HZq := Lib.hid hzq
   clear hown e72 hFq hzq
   go_wp2
   refine bodyPost_ret (v := .tuple #[.slice A' l.length c', .bool (anyB l.length (inF l o))]) (by simp [results, Tryz.results49, go_sem]) rfl ⟨⟨A', c', rfl, HZq.out, HFq.out, Hty.out⟩, hbel⟩

end Go.Proofs.YtaampjhdgeoicaaGreat
