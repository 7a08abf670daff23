/- partition: rows. -/
import Derived.Test.YtaampjhdgeoicaaGreatPoA
namespace Go.Proofs.YtaampjhdgeoicaaGreat
set_option linter.unusedSimpArgs false
set_option linter.unusedVariables false
open Go Go.RowKit
set_option linter.unusedVariables false

theorem infoRo : (Tryz.prog.info? 139).map (fun i => (i.zero, i.size, i.bytes)) = some (some (.agg #[.slice none 0 0, .int .i64 0]), 2, 32) := by kernel_rfl
theorem undRo : Tryz.prog.underlying 135 = some (.slice 139) := by kernel_rfl
theorem undBl : Tryz.prog.underlying 137 = some (.slice 4) := by kernel_rfl
theorem make_bl (N : Nat) (hN : N ≤ 100000) (w : World) : (Instr.makeSlice 137 (.int .i64 (N : Int)) (.int .i64 (N : Int))).run Tryz.prog w = .ok (.slice (some ⟨w.heap.size, 0, none⟩) N N) (w.alloc (.cells (madeCells #[.bool false] N) 4)) := by
 obtain ⟨i, hi, hz, hs, hb⟩ := info_parts infoB
 have h := run_make (P := Tryz.prog) w 137 4 i _ undBl hi hz .i64 .i64 (N : Int) (N : Int) (by omega) (Int.le_refl _) (by rw [hb]; omega) (by omega)
 rw [Int.toNat_natCast, hs, Nat.mul_one] at h
 exact h
theorem made_bl (w : World) (N : Nat) : rowGe (w.alloc (.cells (madeCells #[.bool false] N) 4)) w.heap.size 4 N fun _ => .bool false :=
 ⟨madeCells #[.bool false] N, heap_alloc_new _ _, by rw [size_madeCells]; exact Nat.le_refl _, fun i hi => by
  unfold madeCells
  simp [hi, Nat.mod_one]⟩

theorem own_mono {w : World} {B B' s n : Nat} {e : TypeId} {v : Value} {xs : List Value} (h : w.ownsRow B e s v n xs) (hb : B' ≤ B) : w.ownsRow B' e s v n xs := by
 refine ⟨h.1, ?_⟩
 rcases h.2 with h2 | ⟨g, cap, cur, h3, h4, h5⟩
 ·exact .inl h2
 ·exact .inr ⟨g, cap, cur, h3, Nat.le_trans hb h4, h5⟩
/-- Cut k holds operation o. -/
def inF (l : List Cut) (o : Nat) (k : Nat) : Bool := inN (cut l k).ops (o : Int) (cut l k).ops.length
def anyIn (l : List Cut) (o : Nat) : Bool := anyB l.length (inF l o)
/-- The operations that some cut holds. -/
def opsK (l : List Cut) : Nat → List Nat
 | 0 => []
 | k + 1 => if anyIn l k then opsK l k ++ [k] else opsK l k
def opA (ol : List Nat) (i : Nat) : Nat := ol.getD i 0
/-- Row j is better than row i. -/
def bwR (costs : List Int) (l : List Cut) (ol : List Nat) (i j : Nat) : Bool :=
 (decide (i ≠ j) && !anyB l.length (neB (inF l (opA ol i)) (inF l (opA ol j)))) && (decide (nth costs (opA ol j) < nth costs (opA ol i)) || (decide (nth costs (opA ol j) = nth costs (opA ol i)) && decide (j < i)))
def btR (costs : List Int) (l : List Cut) (ol : List Nat) (i : Nat) : Bool := anyB ol.length (bwR costs l ol i)
/-- What is kept. -/
def kpK (costs : List Int) (l : List Cut) (ol : List Nat) : Nat → List Nat
 | 0 => []
 | k + 1 => if btR costs l ol k then kpK costs l ol k else kpK costs l ol k ++ [opA ol k]
/-- A list of rows in memory. -/
def rcC (costs : List Int) (n : Nat) (ol : List Nat) (rb : Nat → Nat) : List Value := (List.range ol.length).flatMap fun i => [.slice (some ⟨rb i, 0, none⟩) n n, .int .i64 (nth costs (opA ol i))]
structure RoAt (w : World) (B : Nat) (costs : List Int) (l : List Cut) (ol : List Nat) (v : Value) (rb : Nat → Nat) : Prop where
 own : w.ownsRow B 139 2 v ol.length (rcC costs l.length ol rb)
 rows : ∀ i, i < ol.length → BlRow w (rb i) l.length (inF l (opA ol i))
section
variable {w w' : World} {B : Nat} {costs : List Int} {l : List Cut} {ol : List Nat} {v v' : Value} {rb : Nat → Nat} {k o g : Nat}
theorem opA_lt {a : List Nat} {i : Nat} (h : i < a.length) : opA (a ++ [o]) i = opA a i := by unfold opA; simp [List.getD, List.getElem?_append_left h]
theorem opA_eq {a : List Nat} : opA (a ++ [o]) a.length = o := by unfold opA; simp [List.getD]
theorem RoAt.nil : RoAt w B costs l [] (.slice none 0 0) rb := ⟨World.ownsRow_nil _ _ _ _, fun i hi => absurd hi (by simp)⟩
theorem RoAt.up (h : RoAt w B costs l ol v rb) (hb : Below w.heap.size w w') : RoAt w' B costs l ol v rb := ⟨own_below h.own hb, fun i hi => (h.rows i hi).up hb⟩
theorem fm_congr {f g : Nat → List Value} : ∀ (l : List Nat), (∀ i, i ∈ l → f i = g i) → l.flatMap f = l.flatMap g
 | [], _ => rfl
 | x :: l, h => by rw [List.flatMap_cons, List.flatMap_cons, h x (List.mem_cons_self ..), fm_congr l fun i hi => h i (List.mem_cons_of_mem _ hi)]
theorem rcC_push (costs : List Int) (n : Nat) (ol : List Nat) (rb : Nat → Nat) (o g : Nat) : rcC costs n (ol ++ [o]) (upn rb ol.length g) = rcC costs n ol rb ++ [.slice (some ⟨g, 0, none⟩) n n, .int .i64 (nth costs o)] := by
 unfold rcC
 rw [List.length_append]
 show (List.range (ol.length + 1)).flatMap _ = _
 rw [List.range_succ, List.flatMap_append]
 congr 1
 ·refine fm_congr _ fun i hi => ?_
  have hi' := List.mem_range.1 hi
  rw [opA_lt hi']
  unfold upn
  rw [if_neg (by omega)]
 ·simp only [List.flatMap_cons, List.flatMap_nil, List.append_nil]
  rw [opA_eq]
  unfold upn
  rw [if_pos rfl]
theorem RoAt.push (h : RoAt w B costs l ol v rb) (hr : BlRow w g l.length (inF l o)) (ho : w'.ownsRow B 139 2 v' (ol.length + 1) (rcC costs l.length ol rb ++ [.slice (some ⟨g, 0, none⟩) l.length l.length, .int .i64 (nth costs o)])) (hg : w.grownBy w' v.ownBlock) : RoAt w' B costs l (ol ++ [o]) v' (upn rb ol.length g) where
 own := by rw [rcC_push, List.length_append]; exact ho
 rows := fun i hi => by
  rw [List.length_append] at hi
  have hi2 : i < ol.length + 1 := hi
  by_cases e : i < ol.length
  ·rw [opA_lt e]
   unfold upn
   rw [if_neg (by omega)]
   exact rowGe.grown (h.rows i e) hg (rowGe.ne (h.rows i e) h.own (by decide))
  ·obtain rfl : i = ol.length := by omega
   rw [opA_eq]
   unfold upn
   rw [if_pos rfl]
   exact rowGe.grown hr hg (rowGe.ne hr h.own (by decide))
theorem RoAt.cell (h : RoAt w B costs l ol (.slice (some ⟨g, 0, none⟩) ol.length k) rb) {i : Nat} (hi : i < ol.length) : w.cell? ⟨g, i * 2, none⟩ = some (.slice (some ⟨rb i, 0, none⟩) l.length l.length) ∧ w.cell? ⟨g, i * 2 + 1, none⟩ = some (.int .i64 (nth costs (opA ol i))) := by
 have e : ∀ n, (∀ j, j < n → True) → ∀ i, i < n → ((List.range n).flatMap fun i => [Value.slice (some ⟨rb i, 0, none⟩) l.length l.length, Value.int .i64 (nth costs (opA ol i))])[i * 2]? = some (.slice (some ⟨rb i, 0, none⟩) l.length l.length) ∧ ((List.range n).flatMap fun i => [Value.slice (some ⟨rb i, 0, none⟩) l.length l.length, Value.int .i64 (nth costs (opA ol i))])[i * 2 + 1]? = some (.int .i64 (nth costs (opA ol i))) := by
  intro n _
  induction n with
  | zero => intro i hi; omega
  | succ n ih =>
   intro i hi
   have hl : ((List.range n).flatMap fun i => [Value.slice (some ⟨rb i, 0, none⟩) l.length l.length, Value.int .i64 (nth costs (opA ol i))]).length = n * 2 := by
    rw [List.length_flatMap]
    simp
    rw [List.map_const', List.sum_replicate_nat] <;> simp
   rw [List.range_succ, List.flatMap_append]
   by_cases hin : i < n
   ·rw [List.getElem?_append_left (by omega), List.getElem?_append_left (by omega)]
    exact ih (fun _ _ => trivial) i hin
   ·obtain rfl : i = n := by omega
    rw [List.getElem?_append_right (by omega), List.getElem?_append_right (by omega), hl]
    simp
 obtain ⟨e1, e2⟩ := e ol.length (fun _ _ => trivial) i hi
 exact ⟨(World.ownsRow.cellAt h.own (i * 2) (by omega)).trans e1, (World.ownsRow.cellAt h.own (i * 2 + 1) (by omega)).trans e2⟩
end

theorem opsK_yes {l : List Cut} {k : Nat} (h : anyIn l k = true) : opsK l (k + 1) = opsK l k ++ [k] := by rw [show opsK l (k + 1) = if anyIn l k then opsK l k ++ [k] else opsK l k from rfl, if_pos h]
theorem opsK_no {l : List Cut} {k : Nat} (h : anyIn l k = false) : opsK l (k + 1) = opsK l k := by rw [opsK, h]; rfl
theorem kpK_no {costs : List Int} {l : List Cut} {ol : List Nat} {k : Nat} (h : btR costs l ol k = true) : kpK costs l ol (k + 1) = kpK costs l ol k := by rw [show kpK costs l ol (k + 1) = if btR costs l ol k then kpK costs l ol k else kpK costs l ol k ++ [opA ol k] from rfl, if_pos h]
theorem kpK_yes {costs : List Int} {l : List Cut} {ol : List Nat} {k : Nat} (h : btR costs l ol k = false) : kpK costs l ol (k + 1) = kpK costs l ol k ++ [opA ol k] := by rw [kpK, h]; rfl
theorem opsK_le (l : List Cut) : ∀ k, (opsK l k).length ≤ k
 | 0 => Nat.le_refl _
 | k + 1 => by
  have ih := opsK_le l k
  cases h : anyIn l k
  ·rw [opsK_no h]; omega
  ·rw [opsK_yes h, List.length_append]
   show _ + 1 ≤ k + 1
   omega
theorem kpK_le (costs : List Int) (l : List Cut) (ol : List Nat) : ∀ k, (kpK costs l ol k).length ≤ k
 | 0 => Nat.le_refl _
 | k + 1 => by
  have ih := kpK_le costs l ol k
  cases h : btR costs l ol k
  ·rw [kpK_yes h, List.length_append]
   show _ + 1 ≤ k + 1
   omega
  ·rw [kpK_no h]; omega

set_option maxRecDepth 100000 in
set_option maxHeartbeats 8000000 in
theorem rows_any (costs : List Int) (l : List Cut) (A1 A2 : Option Addr) (c1 c2 : Nat) (w : World) (h1 : IntsAt w w.heap.size A1 costs) (h2 : CutsAt w w.heap.size A2 l) (hn : costs.length ≤ 1000) (hm : l.length ≤ 1000) :
  Calls Tryz.prog 71 #[.slice A1 costs.length c1, .slice A2 l.length c2] w fun e w' => (∃ v rb, e = .returned v ∧ RoAt w' w.heap.size costs l (kpK costs l (opsK l costs.length) (opsK l costs.length).length) v rb) ∧ Below w.heap.size w w' := by
 have H1 := Lib.hid h1
 have H2 := Lib.hid h2
 have Hmk := Lib.hid (make_bl l.length (by omega))
 obtain ⟨inR, hiR, jz0, jz1, jz2⟩ := info_parts infoRo
 have hlr := fun k => opsK_le l k
 have HLr := Lib.hid hlr
 clear h1 h2 hlr
 go_enter Tryz.func71, Tryz.ntmps71
 go_wp2
 go_loopw [5, 19] (fun v i wr => ∃ (k : Nat) (A : Option Addr) (c : Nat) (rb : Nat → Nat), k ≤ costs.length ∧ i = .int .i64 k ∧ v = .slice A (opsK l k).length c ∧ Hid (RoAt wr w.heap.size costs l (opsK l k) (.slice A (opsK l k).length c) rb) ∧ Below w.heap.size w wr) (fun _ i _ => costs.length - (intOf i).toNat)
 case atStart => exact ⟨0, none, 0, id, by omega, rfl, rfl, Lib.hid RoAt.nil, Below.refl _ _⟩
 case round =>
  obtain ⟨k, A, c, rb, hk, rfl, rfl, hro, hbel⟩ := hrel
  obtain ⟨wu, hwu⟩ : ∃ wu : World, wu = wr := ⟨_, rfl⟩
  rw [← hwu] at hro hbel ⊢
  clear hwu
  have zu := hbel.size
  have zu0 := hbel.size
  obtain ⟨ol, hol⟩ : ∃ ol, ol = opsK l k := ⟨_, rfl⟩
  rw [← hol] at hro ⊢
  have HOL := Lib.hid hol
  have holl := Lib.hid (show ol.length ≤ 1000 by have := HLr.out k; rw [hol]; omega)
  clear hol
  by_cases hlt : k < costs.length
  ·obtain ⟨b0, o0, ea, hb0, d0⟩ := H1.out.at2 hbel hlt
   subst ea
   have g0 : b0 < wu.heap.size := by omega
   have k0 : (0 : Int) ≤ (k : Int) := by omega
   have k1 : (k : Int) < (costs.length : Int) := by omega
   have hmk := Hmk.out
   go_wp2
   clear hmk
   go_loopw [29] (fun i wr => ∃ j : Nat, j ≤ l.length ∧ i = .int .i64 j ∧ Hid (rowGe wr wu.heap.size 4 l.length (fun t => .bool (decide (t < j) && inF l k t))) ∧ Below wu.heap.size wu wr) (fun i _ => l.length - (intOf i).toNat)
   case atStart => exact ⟨0, by omega, rfl, Lib.hid ((made_bl wu l.length).congr fun t ht => by simp), (Below.refl _ _).alloc (Nat.le_refl _) _⟩
   case round =>
    obtain ⟨j, hj, rfl, hrow, hbj⟩ := hrel
    have zj := hbj.size
    have hbw := hbel.trans (hbj.mono zu)
    have zw := hbw.size
    by_cases hltj : j < l.length
    ·obtain ⟨b2, o2, S, cS, eb, hb2, d1, hS, d2⟩ := H2.out.at2 hbw hltj
     subst eb
     have g2 : b2 < wr.heap.size := by omega
     have j0 : (0 : Int) ≤ (j : Int) := by omega
     have j1 : (j : Int) < (l.length : Int) := by omega
     have lS := hS.1
     have hbA : Below wr.heap.size wr (wr.alloc (.cells #[.slice S (cut l j).ops.length cS, .int .i64 (cut l j).cost] 41)) := (Below.refl _ _).alloc (Nat.le_refl _) _
     have hbwA := hbw.trans (hbA.mono zw)
     have KC := contains5_any (cut l j).ops S cS (k : Int) (wr.alloc (.cells #[.slice S (cut l j).ops.length cS, .int .i64 (cut l j).cost] 41)) (hS.keep (fun _ hp => hbwA.cell hp) hbwA.size)
     obtain ⟨bt, hbt⟩ : ∃ bt, bt = inF l k j := ⟨_, rfl⟩
     have KC' : Calls Tryz.prog 92 #[.slice S (cut l j).ops.length cS, .int .i64 (k : Int)] (wr.alloc (.cells #[.slice S (cut l j).ops.length cS, .int .i64 (cut l j).cost] 41)) fun e w' => e = .returned (.bool bt) ∧ Below (wr.alloc (.cells #[.slice S (cut l j).ops.length cS, .int .i64 (cut l j).cost] 41)).heap.size (wr.alloc (.cells #[.slice S (cut l j).ops.length cS, .int .i64 (cut l j).cost] 41)) w' := by rw [hbt]; exact KC
     have KH := Lib.hid KC'
     have HBT := Lib.hid hbt
     obtain ⟨nS, hnS⟩ : ∃ nS, nS = (cut l j).ops.length := ⟨_, rfl⟩
     obtain ⟨xS, hxS⟩ : ∃ xS, xS = (cut l j).cost := ⟨_, rfl⟩
     rw [← hnS, ← hxS] at KH hbA hbwA
     rw [← hnS] at d1 lS
     rw [← hxS] at d2
     clear hS KC KC' hbt hnS hxS
     go_wp2_with fail
     refine KH.out.mono ?_
     rintro e w10 ⟨rfl, hb10⟩
     have hb11 := hbA.trans (hb10.mono hbA.size)
     have Hr := Lib.hid (rowGe.up hrow.out hb11)
     have r0 := rowGe.cell Hr.out hltj
     have r1 := rowGe.frozen Hr.out j
     have r2 := rowGe.lt Hr.out
     have hbj' := hbj.trans (hb11.mono zj)
     clear hb10 hb11 hbA hbwA hrow hbj hbw
     go_wp2
     go_roundw
     case rel => exact ⟨j + 1, by omega, by go_num, Lib.hid ((rowGe.set Hr.out j (.bool bt)).congr fun t ht => by
      by_cases e : t = j
      ·subst e; rw [if_pos rfl, HBT.out]; simp
      ·rw [if_neg e]
       have : decide (t < j) = decide (t < j + 1) := by
        by_cases h : t < j
        ·rw [decide_eq_true h, decide_eq_true (show t < j + 1 by omega)]
        ·rw [decide_eq_false h, decide_eq_false (show ¬ t < j + 1 by omega)]
       rw [this]), hbj'.setCell (p := ⟨wu.heap.size, j, none⟩) (Nat.le_refl _) _⟩
     case measure => simp [intOf]; omega
    ·obtain rfl : j = l.length := by omega
     have hbl : BlRow wr wu.heap.size l.length (inF l k) := hrow.out.congr fun t ht => by simp [ht]
     have HBL := Lib.hid hbl
     have KC := Lib.hid (containsb_any wu.heap.size l.length (inF l k) wr hbl (by omega))
     have HA : Hid (anyIn l k = anyB l.length (inF l k)) := Lib.hid rfl
     obtain ⟨g, hg⟩ : ∃ g, g = wu.heap.size := ⟨_, rfl⟩
     rw [← hg] at KC HBL ⊢
     obtain ⟨bt, hbt⟩ : ∃ bt, bt = anyB l.length (inF l k) := ⟨_, rfl⟩
     rw [← hbt] at KC HA
     clear hbl hg hbt hrow
     cases bt
     ·go_wp2_with fail
      refine KC.out.mono ?_
      rintro e w10 ⟨rfl, hb10⟩
      have hb11 := hbj.trans (hb10.mono zj)
      have HR2 := Lib.hid (hro.out.up hb11)
      have Hno := Lib.hid (opsK_no HA.out)
      have hb12 := hbel.trans (hb11.mono zu)
      clear hb10 hb11
      go_wp2
      go_roundw
      case rel => exact ⟨k + 1, A, c, rb, by omega, by go_num, by rw [Hno.out, ← HOL.out], by rw [Hno.out, ← HOL.out]; exact HR2, hb12⟩
      case measure => simp [intOf]; omega
     ·go_wp2_with fail
      refine KC.out.mono ?_
      rintro e w10 ⟨rfl, hb10⟩
      have hb11 := hbj.trans (hb10.mono zj)
      have HR2 := Lib.hid (hro.out.up hb11)
      have HB2 := Lib.hid (HBL.out.up hb10)
      have Hyes := Lib.hid (opsK_yes HA.out)
      have hb12 := hbel.trans (hb11.mono zu)
      have z12 := hb12.size
      clear hb10 hb11
      go_wp2_with (at_builtin; refine wpList_push rfl _ _ 135 rfl w.heap.size 139 inR (.agg #[.slice none 0 0, .int .i64 0]) 2 32 undRo hiR jz0 jz1 jz2 rfl (by decide) (by decide) _ ol.length (rcC costs l.length ol rb) rfl (HR2.out.own.alloc _) w10.heap.size 139 [.slice (some ⟨g, 0, none⟩) l.length l.length, .int .i64 (nth costs k)] rfl rfl (heap_alloc_new _ _) (two_one rfl rfl) (by have := holl.out; omega) (by first | omega | (simp; omega)) (B := w.heap.size) (W := w) (hb12.alloc z12 _) (Nat.le_refl _) ?_; intro v11 w11 ho11 hg11 hat11 hb11; have R11 := Lib.hid (RoAt.push (HR2.out.up ((Below.refl _ _).alloc (Nat.le_refl _) _)) (HB2.out.up ((Below.refl _ _).alloc (Nat.le_refl _) _)) ho11 hg11); obtain ⟨A11, c11, rfl⟩ := own_shapeL ho11 (show ol.length + 1 = (opsK l (k + 1)).length by rw [Hyes.out, ← HOL.out, List.length_append]; rfl); clear ho11 hg11 hat11)
      go_roundw
      case rel => exact ⟨k + 1, A11, c11, _, by omega, by go_num, rfl, by rw [Hyes.out, ← HOL.out] at *; exact R11, hb11⟩
      case measure => simp [intOf]; omega
  ·obtain rfl : k = costs.length := by omega
   clear HLr
   have hol1000 := holl.out
   go_wp2
   go_loopw [11, 54] (fun v i wr => ∃ (k : Nat) (A' : Option Addr) (c' : Nat) (rb' : Nat → Nat), k ≤ ol.length ∧ i = .int .i64 k ∧ v = .slice A' (kpK costs l ol k).length c' ∧ Hid (RoAt wr wu.heap.size costs l (kpK costs l ol k) (.slice A' (kpK costs l ol k).length c') rb') ∧ Below wu.heap.size wu wr) (fun _ i _ => ol.length - (intOf i).toNat)
   case atStart => exact ⟨0, none, 0, id, by omega, rfl, rfl, Lib.hid RoAt.nil, Below.refl _ _⟩
   case round =>
    obtain ⟨i, A', c', rb', hi, rfl, rfl, hkp, hbel2⟩ := hrel
    obtain ⟨wv, hwv⟩ : ∃ wv : World, wv = wr := ⟨_, rfl⟩
    rw [← hwv] at hkp hbel2 ⊢
    clear hwv
    have zv := hbel2.size
    obtain ⟨kl, hkl⟩ : ∃ kl, kl = kpK costs l ol i := ⟨_, rfl⟩
    rw [← hkl] at hkp ⊢
    have HKL := Lib.hid hkl
    have hkll := Lib.hid (show kl.length ≤ 1000 by have := kpK_le costs l ol i; have := holl.out; rw [hkl]; omega)
    clear hkl
    by_cases hlti : i < ol.length
    ·obtain ⟨g5, cap5, hv5, hb5, hg5⟩ := World.ownsRow.form hro.out.own (by omega)
     injection hv5 with hv51 hv52 hv53
     subst hv51
     have Hcell := Lib.hid (fun t (ht : t < ol.length) => hro.out.cell ht)
     obtain ⟨d0', d1'⟩ := Hcell.out i hlti
     have d0 := (hbel2.cell (p := ⟨g5, i * 2, none⟩) hg5).trans d0'
     have d1 := (hbel2.cell (p := ⟨g5, i * 2 + 1, none⟩) hg5).trans d1'
     have g5v : g5 < wv.heap.size := by omega
     have i0 : (0 : Int) ≤ (i : Int) := by omega
     have i1 : (i : Int) < (ol.length : Int) := by omega
     obtain ⟨ci, hci⟩ : ∃ ci, ci = nth costs (opA ol i) := ⟨_, rfl⟩
     rw [← hci] at d1
     have HCI := Lib.hid hci
     clear hci d0' d1' hv53 hv52
     go_wp2
     have hX0 : rowGe (wv.alloc (.cells #[.slice (some ⟨rb i, 0, none⟩) l.length l.length, .int .i64 ci] 139)) wv.heap.size 139 2 (fun t => if t = 0 then .slice (some ⟨rb i, 0, none⟩) l.length l.length else .int .i64 ci) := ⟨_, heap_alloc_new _ _, by simp, fun t ht => by rcases t with _ | _ | t <;> first | rfl | omega⟩
     have hbw0 := hbel2.alloc zv (.cells #[.slice (some ⟨rb i, 0, none⟩) l.length l.length, .int .i64 ci] 139)
     obtain ⟨wb, hwb⟩ : ∃ wb, wb = wv.alloc (.cells #[.slice (some ⟨rb i, 0, none⟩) l.length l.length, .int .i64 ci] 139) := ⟨_, rfl⟩
     have hbb : Below wv.heap.size wv wb := by rw [hwb]; exact (Below.refl _ _).alloc (Nat.le_refl _) _
     obtain ⟨X, hX⟩ : ∃ X, X = wv.heap.size := ⟨_, rfl⟩
     rw [← hwb, ← hX] at hX0 ⊢
     rw [← hwb] at hbw0
     have HX0 := Lib.hid hX0
     have hXlt := rowGe.lt hX0
     have HXe := Lib.hid hX
     clear hX0 hwb hX
     have zb := hbw0.size
     go_loopw [14, 61] (fun b j wx => ∃ (k : Nat) (β : Bool), k ≤ ol.length ∧ j = .int .i64 k ∧ b = .bool β ∧ Hid (anyB k (bwR costs l ol i) = β) ∧ Below wb.heap.size wb wx) (fun _ j _ => ol.length - (intOf j).toNat)
     case atStart => exact ⟨0, false, by omega, rfl, rfl, rfl, Below.refl _ _⟩
     case round =>
      obtain ⟨k, β, hk, rfl, rfl, HB, hbx⟩ := hrel
      have zx := hbx.size
      by_cases hltk : k < ol.length
      ·have HBW : Hid (bwR costs l ol i k = ((decide (i ≠ k) && !anyB l.length (neB (inF l (opA ol i)) (inF l (opA ol k)))) && (decide (nth costs (opA ol k) < nth costs (opA ol i)) || (decide (nth costs (opA ol k) = nth costs (opA ol i)) && decide (k < i))))) := Lib.hid rfl
       have HS : Hid (anyB (k + 1) (bwR costs l ol i) = (anyB k (bwR costs l ol i) || bwR costs l ol i k)) := Lib.hid (anyB_succ _ _)
       have hbu := hbw0.trans (hbx.mono zb)
       obtain ⟨d2', d3'⟩ := Hcell.out k hltk
       have d2 := (hbu.cell (p := ⟨g5, k * 2, none⟩) hg5).trans d2'
       have d3 := (hbu.cell (p := ⟨g5, k * 2 + 1, none⟩) hg5).trans d3'
       have g5x : g5 < wr.heap.size := by omega
       have k0 : (0 : Int) ≤ (k : Int) := by omega
       have k1 : (k : Int) < (ol.length : Int) := by omega
       have x0 := rowGe.cell (rowGe.up HX0.out hbx) (i := 0) (by decide)
       have x1 := rowGe.cell (rowGe.up HX0.out hbx) (i := 1) (by decide)
       have x2 : X < wr.heap.size := by omega
       simp only [if_true, if_false, Nat.one_ne_zero] at x0 x1
       obtain ⟨ck, hck⟩ : ∃ ck, ck = nth costs (opA ol k) := ⟨_, rfl⟩
       rw [← hck] at d3 HBW
       rw [← HCI.out] at HBW
       clear d2' d3' hck
       have hbA : Below wr.heap.size wr (wr.alloc (.cells #[.slice (some ⟨rb k, 0, none⟩) l.length l.length, .int .i64 ck] 139)) := (Below.refl _ _).alloc (Nat.le_refl _) _
       have hbuA := hbu.trans (hbA.mono hbu.size)
       have KE := equalb_any (rb i) (rb k) l.length (inF l (opA ol i)) (inF l (opA ol k)) (wr.alloc (.cells #[.slice (some ⟨rb k, 0, none⟩) l.length l.length, .int .i64 ck] 139)) ((hro.out.rows i hlti).up hbuA) ((hro.out.rows k hltk).up hbuA) (by omega)
       obtain ⟨q, hq⟩ : ∃ q, q = !anyB l.length (neB (inF l (opA ol i)) (inF l (opA ol k))) := ⟨_, rfl⟩
       rw [← hq] at KE HBW
       have KE' := Lib.hid KE
       clear KE hq hbuA
       cases β
       case true =>
        have HF := Lib.hid (show anyB (k + 1) (bwR costs l ol i) = true by rw [HS.out, HB.out]; rfl)
        go_wp2
        go_roundw
        case rel => exact ⟨k + 1, true, by omega, by go_num, rfl, HF, hbx.trans (hbA.mono zx)⟩
        case measure => simp [intOf]; omega
       case false =>
        have HS2 := Lib.hid (show anyB (k + 1) (bwR costs l ol i) = bwR costs l ol i k by rw [HS.out, HB.out]; rfl)
        by_cases hik : i = k
        ·have e1 : ((i : Int) != (k : Int)) = false := by simp; omega
         have HF := Lib.hid (show anyB (k + 1) (bwR costs l ol i) = false by rw [HS2.out, HBW.out, decide_eq_false (by simpa using hik)]; rfl)
         clear hik
         go_wp2
         go_roundw
         case rel => exact ⟨k + 1, false, by omega, by go_num, rfl, HF, hbx.trans (hbA.mono zx)⟩
         case measure => simp [intOf]; omega
        ·have e1 : ((i : Int) != (k : Int)) = true := by simp; omega
         have HBW2 := Lib.hid (show bwR costs l ol i k = (q && (decide (ck < ci) || (decide (ck = ci) && decide (k < i)))) by rw [HBW.out, decide_eq_true hik]; rfl)
         have e9' : decide ((k : Int) < (i : Int)) = decide (k < i) := by
          by_cases h : k < i
          ·rw [decide_eq_true h, decide_eq_true (by omega)]
          ·rw [decide_eq_false h, decide_eq_false (by omega)]
         have e8' : (ck == ci) = decide (ck = ci) := rfl
         obtain ⟨b7, h7⟩ : ∃ b7, decide (ck < ci) = b7 := ⟨_, rfl⟩
         obtain ⟨b8, h8⟩ : ∃ b8, decide (ck = ci) = b8 := ⟨_, rfl⟩
         obtain ⟨b9, h9⟩ : ∃ b9, decide (k < i) = b9 := ⟨_, rfl⟩
         rw [h7, h8, h9] at HBW2
         rw [h8] at e8'
         rw [h9] at e9'
         have e7' := h7
         clear h7 h8 hik
         have HF := Lib.hid (HS2.out.trans HBW2.out)
         cases q
         ·go_wp2_with fail
          refine KE'.out.mono ?_
          rintro e w10 ⟨rfl, hb10⟩
          have hb11 := hbx.trans ((hbA.trans (hb10.mono hbA.size)).mono zx)
          clear hb10
          go_wp2
          go_roundw
          case rel => exact ⟨k + 1, false, by omega, by go_num, rfl, Lib.hid (by rw [HF.out]; rfl), hb11⟩
          case measure => simp [intOf]; omega
         ·cases b7 <;> cases b8 <;> cases b9
          all_goals
           go_wp2_with fail
           refine KE'.out.mono ?_
           rintro e w10 ⟨rfl, hb10⟩
           have hb11 := hbx.trans ((hbA.trans (hb10.mono hbA.size)).mono zx)
           have x0' := (hb10.cell (p := ⟨X, 1, none⟩) (by simp; omega)).trans ((hbA.cell (p := ⟨X, 1, none⟩) x2).trans x1)
           have x3' := (hb10.cell (p := ⟨wr.heap.size, 1, none⟩) (by simp)).trans (show _ = some (.int .i64 ck) by simp)
           have x4' : wr.heap.size < w10.heap.size := by have := hb10.size; simp at this; omega
           clear hb10
           go_wp2
           go_roundw
           case rel => exact ⟨k + 1, _, by omega, by go_num, rfl, Lib.hid (by rw [HF.out]; rfl), hb11⟩
           case measure => simp [intOf]; omega
      ·obtain rfl : k = ol.length := by omega
       have HBt : Hid (btR costs l ol i = β) := Lib.hid HB.out
       have x0 := rowGe.cell (rowGe.up HX0.out hbx) (i := 0) (by decide)
       have x1 := rowGe.cell (rowGe.up HX0.out hbx) (i := 1) (by decide)
       have x2 : X < wr.heap.size := by omega
       simp only [if_true, if_false, Nat.one_ne_zero] at x0 x1
       have hbu := hbb.trans (hbx.mono hbb.size)
       have hbv := hbel2.trans (hbu.mono zv)
       have zbv := hbv.size
       have HK2 := Lib.hid (hkp.out.up hbu)
       have HBl := Lib.hid ((hro.out.rows i hlti).up hbv)
       cases β
       case true =>
        have Hno := Lib.hid (kpK_no HBt.out)
        go_wp2
        go_roundw
        case rel => exact ⟨i + 1, A', c', rb', by omega, by go_num, by rw [Hno.out, ← HKL.out], by rw [Hno.out, ← HKL.out]; exact HK2, hbv⟩
        case measure => simp [intOf]; omega
       case false =>
        have Hyes := Lib.hid (kpK_yes HBt.out)
        go_wp2_with (at_builtin; refine wpList_push rfl _ _ 135 rfl wu.heap.size 139 inR (.agg #[.slice none 0 0, .int .i64 0]) 2 32 undRo hiR jz0 jz1 jz2 rfl (by decide) (by decide) _ kl.length (rcC costs l.length kl rb') rfl (HK2.out.own.alloc _) wr.heap.size 139 [.slice (some ⟨rb i, 0, none⟩) l.length l.length, .int .i64 ci] rfl rfl (heap_alloc_new _ _) (two_one rfl rfl) (by have := hkll.out; omega) (by first | omega | (simp; omega)) (B := wu.heap.size) (W := wu) (hbv.alloc zbv _) (Nat.le_refl _) ?_; intro v11 w11 ho11 hg11 hat11 hb11; have R11 := Lib.hid (RoAt.push (o := opA ol i) (HK2.out.up ((Below.refl _ _).alloc (Nat.le_refl _) _)) (HBl.out.up ((Below.refl _ _).alloc (Nat.le_refl _) _)) (by rw [← HCI.out]; exact ho11) hg11); obtain ⟨A11, c11, rfl⟩ := own_shapeL ho11 (show kl.length + 1 = (kpK costs l ol (i + 1)).length by rw [Hyes.out, ← HKL.out, List.length_append]; rfl); clear ho11 hg11 hat11)
        go_roundw
        case rel => exact ⟨i + 1, A11, c11, _, by omega, by go_num, rfl, by rw [Hyes.out, ← HKL.out] at *; exact R11, hb11⟩
        case measure => simp [intOf]; omega
    ·obtain rfl : i = ol.length := by omega
     have hbw := hbel.trans (hbel2.mono zu)
     go_wp2
     go_ret
     refine ⟨⟨_, rb', rfl, ?_⟩, hbw⟩
     have h1 := hkp.out
     rw [HKL.out, HOL.out] at h1
     rw [HKL.out, HOL.out]
     exact ⟨own_mono h1.own zu0, h1.rows⟩

end Go.Proofs.YtaampjhdgeoicaaGreat
