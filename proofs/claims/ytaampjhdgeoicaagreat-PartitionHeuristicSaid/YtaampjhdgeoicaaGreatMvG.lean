/- Texts laid together: PartAR, PartB, PartC, PartD. -/
import Derived.Test.YtaampjhdgeoicaaGreatPartA
import Derived.Test.YtaampjhdgeoicaaGreatMfC
import Derived.Test.YtaampjhdgeoicaaGreatMfB
import Derived.LoopTactic
import Derived.Deep.RegionHeld3
import Derived.Deep.LoopGhost
import Derived.Deep.DeepCutAuto
import Derived.Test.YtaampjhdgeoicaaGreatMfA
namespace Go.Proofs.YtaampjhdgeoicaaGreat
set_option linter.unusedSimpArgs false
set_option linter.unusedVariables false
section
open Go.RowKit
set_option linter.unusedVariables false

set_option maxRecDepth 4000 in
set_option maxHeartbeats 4000000 in
theorem rcheck38_any (costs : List Int) (l : List Cut) (A1 A2 : Option Addr) (c1 c2 : Nat) (w : World) (h1 : IntsAt w w.heap.size A1 costs) (h2 : CutsAt w w.heap.size A2 l) :
  Calls Tryz.prog 44 #[.slice A1 costs.length c1, .slice A2 l.length c2] w fun e w' => e = .returned (.int .i64 (chk38 costs l)) ∧ Below w.heap.size w w' := by
 have l1 := h1.len
 have l2 := h2.len
 go_enter Tryz.func44, Tryz.ntmps44
 go_wp2
 go_loopw [13] (fun i wr => ∃ k : Nat, k ≤ costs.length ∧ i = .int .i64 k ∧ anyB k (offC costs) = false ∧ Below w.heap.size w wr) (fun i _ => costs.length - (intOf i).toNat)
 case atStart => exact ⟨0, by omega, rfl, rfl, Below.refl _ _⟩
 case round =>
  obtain ⟨k, hk, rfl, hB, hbel⟩ := hrel
  have HB := Lib.hid hB
  clear hB
  by_cases hlt : k < costs.length
  ·obtain ⟨b, o, ea, hb, d1⟩ := h1.at2 hbel hlt
   subst ea
   have hbz := hbel.size
   by_cases q1 : nth costs k < 0
   ·have He := Lib.hid (show chk38 costs l = 1 from chk_off (anyB_true.2 ⟨k, hlt, by unfold offC; simp [q1]⟩))
    have e1 : decide (nth costs k < 0) = true := by simpa using q1
    go_wp2
    go_ret
    exact ⟨ret_int He.out.symm, hbel⟩
   have e1 : decide (nth costs k < 0) = false := by simpa using q1
   by_cases q2 : 1048576 < nth costs k
   ·have He := Lib.hid (show chk38 costs l = 1 from chk_off (anyB_true.2 ⟨k, hlt, by unfold offC; simp [q2]⟩))
    have e2 : decide (1048576 < nth costs k) = true := by simpa using q2
    go_wp2
    go_ret
    exact ⟨ret_int He.out.symm, hbel⟩
   have e2 : decide (1048576 < nth costs k) = false := by simpa using q2
   go_wp2
   go_roundw
   case rel => exact ⟨k + 1, by omega, by go_num, (by rw [anyB_succ, HB.out]; unfold offC; rw [e1, e2]; rfl), hbel⟩
   case measure => simp [intOf]; omega
  obtain rfl : k = costs.length := by omega
  have h0 := HB.out
  clear HB
  have hbw := hbel
  by_cases hmany : 24 < l.length
  ·have He := Lib.hid (chk_many h0 hmany)
   clear h0
   go_wp2
   go_ret
   exact ⟨ret_int He.out.symm, hbel⟩
  have hwz := hbel.size
  clear hbel hlt
  obtain ⟨wq, rfl⟩ : ∃ wq : World, wq = wr := ⟨_, rfl⟩
  have Ho := Lib.hid h0
  have Hm := Lib.hid hmany
  have Hw := Lib.hid hbw
  clear h0
  go_wp2
  clear hmany
  go_loopw [29] (fun i wr => ∃ k : Nat, k ≤ l.length ∧ i = .int .i64 k ∧ (∀ j, j < k → cutC costs.length (cut l j).ops = 0) ∧ Below w.heap.size w wr) (fun i _ => l.length - (intOf i).toNat)
  case atStart => exact ⟨0, by omega, rfl, fun j hj => absurd hj (by omega), by first | exact Hw.out | exact bel⟩
  case round =>
   obtain ⟨k, hk, rfl, hok, hbel⟩ := hrel
   have Hok := Lib.hid hok
   clear hok
   by_cases hlt : k < l.length
   ·obtain ⟨b, o, S, c, ea, hb, d0, hS, d1⟩ := h2.at2 hbel hlt
    subst ea
    have hbz := hbel.size
    have g2 : b < wr.heap.size := by omega
    have j1 := hS.len
    by_cases q0 : (cut l k).ops.length = 0
    ·have He := Lib.hid (show chk38 costs l = 3 by rw [chk_cuts Ho.out Hm.out, cutsC_at hlt Hok.out (by rw [cutC_none q0]; decide), cutC_none q0])
     rw [q0] at d0
     clear q0
     go_wp2
     go_ret
     exact ⟨ret_int He.out.symm, by exact bel⟩
    ·have q1 : ((cut l k).ops.length == 0) = false := by simpa using q0
     have Hq := Lib.hid q0
     clear q0
     have q2 : (0 : Int) < ((cut l k).ops.length : Int) := by have := Hq.out; omega
     have q3 : (((cut l k).ops.length : Int) == 0) = false := by have := Hq.out; rw [beq_eq_false_iff_ne]; omega
     go_wp2
     have Hup := fun X (hx : Below (wr.heap.size + 1) (wr.alloc (.cells #[.slice S (cut l k).ops.length c, .int .i64 (cut l k).cost] 41)) X) => hbel.trans (Below.trans (Below.alloc (Below.refl w.heap.size wr) hbz _) (hx.mono (by omega)))
     have Hbx := fun X (hx : Below (wr.heap.size + 1) (wr.alloc (.cells #[.slice S (cut l k).ops.length c, .int .i64 (cut l k).cost] 41)) X) => (hx.cell (p := ⟨wr.heap.size, 0, none⟩) (by show wr.heap.size < _; omega)).trans (show _ = some (Value.slice S (cut l k).ops.length c) by simp)
     go_loopw [40] (fun i wx => ∃ j : Nat, j ≤ (cut l k).ops.length ∧ i = .int .i64 j ∧ anyB j (badK costs.length (cut l k).ops) = false ∧ Below (wr.heap.size + 1) (wr.alloc (.cells #[.slice S (cut l k).ops.length c, .int .i64 (cut l k).cost] 41)) wx) (fun i _ => (cut l k).ops.length - (intOf i).toNat)
     case atStart => exact ⟨0, by omega, rfl, rfl, by first | exact Below.refl _ _ | (simpa using Below.refl _ _)⟩
     case round =>
      obtain ⟨j, hj, rfl, hno, hbx⟩ := hrel
      have Hno := Lib.hid hno
      clear hno
      have hbw2 := Hup _ hbx
      have x0 := Hbx _ hbx
      have hbz2 := hbw2.size
      by_cases hltj : j < (cut l k).ops.length
      ·obtain ⟨b', o', eS, hb', hc'⟩ := hS.at_ hltj
       subst eS
       have d5 := (hbw2.cell (p := ⟨b', o' + j, none⟩) hb').trans (hc' j hltj)
       have Hbad := Lib.hid (fun (h : badK costs.length (cut l k).ops j = true) => show chk38 costs l = 2 by rw [chk_cuts Ho.out Hm.out, cutsC_at hlt Hok.out (by rw [cutC_bad hltj h]; decide), cutC_bad hltj h])
       by_cases q4 : nth (cut l k).ops j < 0
       ·have e4 : decide (nth (cut l k).ops j < 0) = true := by simpa using q4
        have He := Lib.hid (Hbad.out (by unfold badK; rw [e4]; rfl))
        go_wp2
        go_ret
        exact ⟨ret_int He.out.symm, hbw2⟩
       have e4 : decide (nth (cut l k).ops j < 0) = false := by simpa using q4
       by_cases q5 : (costs.length : Int) ≤ nth (cut l k).ops j
       ·have e5 : decide ((costs.length : Int) ≤ nth (cut l k).ops j) = true := by simpa using q5
        have He := Lib.hid (Hbad.out (by unfold badK; rw [e4, e5]; rfl))
        go_wp2
        go_ret
        exact ⟨ret_int He.out.symm, hbw2⟩
       have e5 : decide ((costs.length : Int) ≤ nth (cut l k).ops j) = false := by simpa using q5
       by_cases k0 : 0 < j
       ·have z0 : decide ((0 : Int) < (j : Int)) = true := by simpa using k0
        have z1 : (1 : Int) ≤ j := by omega
        have d6 := (hbw2.cell (p := ⟨b', o' + (j - 1), none⟩) hb').trans (hc' (j - 1) (by omega))
        by_cases q6 : nth (cut l k).ops j ≤ nth (cut l k).ops (j - 1)
        ·have e6 : decide (nth (cut l k).ops j ≤ nth (cut l k).ops (j - 1)) = true := by simpa using q6
         have He := Lib.hid (Hbad.out (by unfold badK; rw [e6]; simp [k0]))
         go_wp2
         go_ret
         exact ⟨ret_int He.out.symm, hbw2⟩
        have e6 : decide (nth (cut l k).ops j ≤ nth (cut l k).ops (j - 1)) = false := by simpa using q6
        go_wp2
        go_roundw
        case rel => exact ⟨j + 1, by omega, by go_num, (by rw [anyB_succ, Hno.out]; unfold badK; rw [e4, e5, e6]; simp), hbx⟩
        case measure => simp [intOf]; omega
       ·have z0 : decide ((0 : Int) < (j : Int)) = false := by simpa using k0
        go_wp2
        go_roundw
        case rel => exact ⟨j + 1, by omega, by go_num, (by rw [anyB_succ, Hno.out]; unfold badK; rw [e4, e5]; simp; omega), hbx⟩
        case measure => simp [intOf]; omega
      ·have Hg := Lib.hid (show cutC costs.length (cut l k).ops = 0 from cutC_good Hq.out (by rw [show (cut l k).ops.length = j by omega]; exact Hno.out))
       go_wp2
       go_roundw
       case rel => exact ⟨k + 1, by omega, by go_num, (fun i hi => by rcases Nat.lt_succ_iff_lt_or_eq.1 hi with h | rfl; exact Hok.out i h; exact Hg.out), hbw2⟩
       case measure => simp [intOf]; omega
   ·have He := Lib.hid (show chk38 costs l = 0 by rw [chk_cuts Ho.out Hm.out, cutsC_all (fun j hj => Hok.out j (by omega))])
    go_wp2
    go_ret
    exact ⟨ret_int He.out.symm, by exact bel⟩
end

section
open Go.RowKit
set_option linter.unusedVariables false

/-- One of the first i operators of a cut is o. -/
def inN (ops : List Int) (o : Int) (i : Nat) : Bool := anyB i fun t => nth ops t == o
theorem inN_succ (ops : List Int) (o : Int) (i : Nat) : inN ops o (i + 1) = (inN ops o i || nth ops i == o) := anyB_succ _ _
def inB (x : Cut) (o : Int) : Bool := inN x.ops o x.ops.length
/-- How many of the first k cuts contain an operator. -/
def cnt (l : List Cut) (o : Int) : Nat → Nat
 | 0 => 0
 | k + 1 => if inB (cut l k) o then cnt l o k + 1 else cnt l o k
theorem cnt_le (l : List Cut) (o : Int) : ∀ k, cnt l o k ≤ k
 | 0 => Nat.le_refl _
 | k + 1 => by have := cnt_le l o k; show (if inB (cut l k) o then cnt l o k + 1 else cnt l o k) ≤ _; split <;> omega
theorem cnt_mono (l : List Cut) (o : Int) {k : Nat} : ∀ {n : Nat}, k ≤ n → cnt l o k ≤ cnt l o n
  | 0, h => by obtain rfl : k = 0 := by omega
               exact Nat.le_refl _
  | n + 1, h => by
    by_cases e : k = n + 1
    · subst e; exact Nat.le_refl _
    · have := cnt_mono l o (k := k) (n := n) (by omega)
      show _ ≤ (if inB (cut l n) o then cnt l o n + 1 else cnt l o n); split <;> omega
theorem cnt_pos {l : List Cut} {o : Int} {k n : Nat} (hk : k < n) (h : inB (cut l k) o = true) : 1 ≤ cnt l o n := by
 have h1 := cnt_mono l o (k := k + 1) (n := n) (by omega)
 have h2 : cnt l o (k + 1) = cnt l o k + 1 := by show (if inB (cut l k) o then _ else _) = _; rw [if_pos h]
 omega
/-- .. and of the next one's first i operators. -/
def manyV (l : List Cut) (k i j : Nat) : Int := if inN (cut l k).ops j i then (cnt l j k : Int) + 1 else (cnt l j k : Int)
theorem manyV_zero (l : List Cut) (k j : Nat) : manyV l k 0 j = cnt l j k := rfl
theorem manyV_end (l : List Cut) (k j : Nat) : manyV l k (cut l k).ops.length j = cnt l j (k + 1) := by
 unfold manyV
 show _ = (((if inB (cut l k) j then cnt l j k + 1 else cnt l j k) : Nat) : Int)
 unfold inB
 split <;> omega
theorem asc_lt {ops : List Int} (h : ∀ i, i < ops.length → 0 < i → nth ops (i - 1) < nth ops i) : ∀ {j i : Nat}, i < j → j < ops.length → nth ops i < nth ops j
 | 0, i, hi, _ => absurd hi (by omega)
 | j + 1, i, hi, hj => by
  have h1 := h (j + 1) hj (by omega)
  simp only [Nat.add_sub_cancel] at h1
  by_cases e : i = j
  ·subst e; exact h1
  ·have := asc_lt h (i := i) (j := j) (by omega) (by omega); omega
theorem inN_new {ops : List Int} (h : ∀ i, i < ops.length → 0 < i → nth ops (i - 1) < nth ops i) {i : Nat} (hi : i < ops.length) : inN ops (nth ops i) i = false := by
 unfold inN
 rw [anyB_false]
 intro t ht
 have := asc_lt h ht hi
 simp; omega
theorem manyV_succ {l : List Cut} {k i o : Nat} (h : ∀ i, i < (cut l k).ops.length → 0 < i → nth (cut l k).ops (i - 1) < nth (cut l k).ops i) (hi : i < (cut l k).ops.length) (ho : nth (cut l k).ops i = (o : Int)) (j : Nat) :
  manyV l k (i + 1) j = if j = o then manyV l k i o + 1 else manyV l k i j := by
 have h1 := inN_new h hi
 rw [ho] at h1
 unfold manyV
 rw [inN_succ, ho]
 by_cases e : j = o
 ·subst e; rw [h1]; simp
 ·have : ((o : Int) == (j : Int)) = false := by simp; omega
  rw [this, if_neg e]; simp

/-- An operator's share. -/
def shF (costs : List Int) (l : List Cut) (o : Int) : Int × Int × Int := newF (nth costs o.toNat) (cnt l o l.length)
theorem shF_ok {costs : List Int} {l : List Cut} (g : Good38 costs l) {k i : Nat} (hk : k < l.length) (hi : i < (cut l k).ops.length) :
  ∃ p q, shF costs l (nth (cut l k).ops i) = (p, q, 0) ∧ prB p q = true ∧ p * 1 ≤ 1048576 * q := by
 have g1 := g.op k hk i hi
 have g2 := g.cost (nth (cut l k).ops i).toNat (by omega)
 have c1 : 1 ≤ cnt l (nth (cut l k).ops i) l.length := cnt_pos hk (anyB_true.2 ⟨i, hi, by simp⟩)
 have c2 := cnt_le l (nth (cut l k).ops i) l.length
 have c3 := g.many
 obtain ⟨p, q, e1, e2, e3⟩ := newF_small (n := nth costs (nth (cut l k).ops i).toNat) (d := (cnt l (nth (cut l k).ops i) l.length : Int)) (by omega) (by omega) (by omega) (by omega)
 refine ⟨p, q, e1, e2, ?_⟩
 have b := prB_bounds e2
 have e4 := (Rat.divInt_eq_divInt_iff (by omega) (by omega)).1 e3
 generalize hC : (cnt l (nth (cut l k).ops i) l.length : Int) = C at *
 generalize nth costs (nth (cut l k).ops i).toNat = N at *
 have h1 : p * C ≤ 1048576 * q * C := by
  have t1 : N * q ≤ 1048576 * q := Int.mul_le_mul_of_nonneg_right g2.2 (by omega)
  have t2 : 1048576 * q * 1 ≤ 1048576 * q * C := Int.mul_le_mul_of_nonneg_left (by omega) (by omega)
  omega
 rw [Int.mul_one]
 exact Int.le_of_mul_le_mul_right h1 (by omega)

/-- The least share of the first i operators: the reference's, the program's. -/
def leaR (costs : List Int) (l : List Cut) (ops : List Int) : Nat → Int × Int
 | 0 => (1048576, 1)
 | i + 1 => if cmpF (shF costs l (nth ops i)).1 (shF costs l (nth ops i)).2.1 (leaR costs l ops i).1 (leaR costs l ops i).2 < 0 then ((shF costs l (nth ops i)).1, (shF costs l (nth ops i)).2.1) else leaR costs l ops i
def leaP (costs : List Int) (l : List Cut) (ops : List Int) : Nat → Int × Int
 | 0 => (0, 0)
 | i + 1 => if i = 0 ∨ cmpF (shF costs l (nth ops i)).1 (shF costs l (nth ops i)).2.1 (leaP costs l ops i).1 (leaP costs l ops i).2 < 0 then ((shF costs l (nth ops i)).1, (shF costs l (nth ops i)).2.1) else leaP costs l ops i
theorem lea_eq {costs : List Int} {l : List Cut} (g : Good38 costs l) {k : Nat} (hk : k < l.length) : ∀ i, 0 < i → i ≤ (cut l k).ops.length → leaP costs l (cut l k).ops i = leaR costs l (cut l k).ops i
 | 0, h, _ => absurd h (by omega)
 | i + 1, _, hi => by
  obtain ⟨p, q, e1, e2, e3⟩ := shF_ok g hk (i := i) (by omega)
  by_cases h0 : i = 0
  ·subst h0
   unfold leaP leaR
   rw [e1, if_pos (.inl rfl)]
   show (p, q) = if cmpF p q 1048576 1 < 0 then (p, q) else (1048576, 1)
   split
   ·rfl
   ·rename_i h
    have h2 : prB 1048576 1 = true := by decide +kernel
    rw [cmpF_lt e2 h2] at h
    obtain ⟨a, b⟩ := proper_eq e2 h2 (by omega)
    rw [a, b]
  ·have ih := lea_eq g hk i (by omega) (by omega)
   unfold leaP leaR
   rw [ih]
   simp only [h0, false_or]
/-- The uniform partition of the first k cuts. -/
def uniL (costs : List Int) (l : List Cut) (k : Nat) : List (Int × Int) := (List.range k).map fun j => leaR costs l (cut l j).ops (cut l j).ops.length
theorem uniL_succ (costs : List Int) (l : List Cut) (k : Nat) : uniL costs l (k + 1) = uniL costs l k ++ [leaR costs l (cut l k).ops (cut l k).ops.length] := by unfold uniL; rw [List.range_succ, List.map_append]; rfl
theorem uniL_len (costs : List Int) (l : List Cut) (k : Nat) : (uniL costs l k).length = k := by unfold uniL; simp
def uniR (costs : List Int) (l : List Cut) : List (Int × Int) := if chk38 costs l = 0 then uniL costs l l.length else []

/-- The least remaining cost of the first i operators; what remains. -/
def minO (f : Nat → Int) (ops : List Int) : Nat → Int
 | 0 => 1048576
 | i + 1 => min (minO f ops i) (f (nth ops i).toNat)
def subO (f : Nat → Int) (ops : List Int) (m : Int) (i j : Nat) : Int := if inN ops j i then f j - m else f j
theorem subO_succ {f : Nat → Int} {ops : List Int} {m : Int} {i o : Nat} (h : ∀ i, i < ops.length → 0 < i → nth ops (i - 1) < nth ops i) (hi : i < ops.length) (ho : nth ops i = (o : Int)) (j : Nat) :
  subO f ops m (i + 1) j = if j = o then subO f ops m i o - m else subO f ops m i j := by
 have h1 := inN_new h hi
 rw [ho] at h1
 unfold subO
 rw [inN_succ, ho]
 by_cases e : j = o
 ·subst e; rw [h1]; simp
 ·have : ((o : Int) == (j : Int)) = false := by simp; omega
  rw [this, if_neg e]; simp
def lefK (costs : List Int) (l : List Cut) : Nat → Nat → Int
 | 0 => nth costs
 | k + 1 => subO (lefK costs l k) (cut l k).ops (minO (lefK costs l k) (cut l k).ops (cut l k).ops.length) (cut l k).ops.length
def minK (costs : List Int) (l : List Cut) (k : Nat) : Int := minO (lefK costs l k) (cut l k).ops (cut l k).ops.length
theorem minO_le (f : Nat → Int) (ops : List Int) : ∀ i, minO f ops i ≤ 1048576
 | 0 => Int.le_refl _
 | i + 1 => by have := minO_le f ops i; unfold minO; omega
theorem minO_at (f : Nat → Int) (ops : List Int) : ∀ {i j : Nat}, j < i → minO f ops i ≤ f (nth ops j).toNat
 | 0, j, h => absurd h (by omega)
 | i + 1, j, h => by
  unfold minO
  by_cases e : j = i
  ·subst e; omega
  ·have := minO_at f ops (i := i) (j := j) (by omega); omega
theorem minO_ge {f : Nat → Int} {ops : List Int} : ∀ {i : Nat}, (∀ j, j < i → 0 ≤ f (nth ops j).toNat) → 0 ≤ minO f ops i
 | 0, _ => by unfold minO; omega
 | i + 1, h => by have := minO_ge (f := f) (ops := ops) (i := i) (fun j hj => h j (by omega)); have := h i (by omega); unfold minO; omega
/-- What remains is between 0 and the cost. -/
theorem lefK_bd {costs : List Int} {l : List Cut} (g : Good38 costs l) : ∀ (k : Nat), k ≤ l.length → ∀ j, j < costs.length → 0 ≤ lefK costs l k j ∧ lefK costs l k j ≤ 1048576
 | 0, _, j, hj => g.cost j hj
 | k + 1, hk, j, hj => by
  have ih := lefK_bd g k (by omega)
  have hf : ∀ t, t < (cut l k).ops.length → 0 ≤ lefK costs l k (nth (cut l k).ops t).toNat := fun t ht => by
   have := g.op k (by omega) t ht
   exact (ih _ (by omega)).1
  show 0 ≤ subO (lefK costs l k) (cut l k).ops (minO (lefK costs l k) (cut l k).ops (cut l k).ops.length) (cut l k).ops.length j ∧ subO (lefK costs l k) (cut l k).ops (minO (lefK costs l k) (cut l k).ops (cut l k).ops.length) (cut l k).ops.length j ≤ _
  unfold subO
  have h0 := minO_ge hf
  have h1 := ih j hj
  split
  ·rename_i h
   obtain ⟨t, ht, e⟩ := anyB_true.1 h
   have h2 := minO_at (lefK costs l k) (cut l k).ops ht
   simp only [beq_iff_eq] at e
   rw [e] at h2
   simp only [Int.toNat_natCast] at h2
   omega
  ·exact h1
def greL (costs : List Int) (l : List Cut) (k : Nat) : List (Int × Int) := (List.range k).map fun j => (minK costs l j, 1)
theorem greL_succ (costs : List Int) (l : List Cut) (k : Nat) : greL costs l (k + 1) = greL costs l k ++ [(minK costs l k, 1)] := by unfold greL; rw [List.range_succ, List.map_append]; rfl
theorem greL_len (costs : List Int) (l : List Cut) (k : Nat) : (greL costs l k).length = k := by unfold greL; simp
def greR (costs : List Int) (l : List Cut) : List (Int × Int) := if chk38 costs l = 0 then greL costs l l.length else []
end

section
open Go.RowKit
set_option linter.unusedVariables false

theorem infoI : (Tryz.prog.info? 3).map (fun i => (i.zero, i.size, i.bytes)) = some (some (.int .i64 0), 1, 8) := by kernel_rfl
theorem undI : Tryz.prog.underlying 22 = some (.slice 3) := by kernel_rfl
theorem manyV_bd (l : List Cut) (k i j : Nat) : 0 ≤ manyV l k i j ∧ manyV l k i j ≤ (k : Int) + 1 := by
 have := cnt_le l j k
 unfold manyV; split <;> omega
theorem gotFs_own {w : World} {B : Nat} {v : Value} {l : List (Int × Int)} {n : Nat} (h : w.ownsRow B 45 2 v n (fc l)) (hn : l.length = n) (hl : l.length ≤ 140737488355328) : GotFs w v l := by
 subst hn; exact own_fracs h hl

set_option maxRecDepth 100000 in
set_option maxHeartbeats 8000000 in
theorem uniform_any (costs : List Int) (l : List Cut) (A1 A2 : Option Addr) (c1 c2 : Nat) (w : World) (h1 : IntsAt w w.heap.size A1 costs) (h2 : CutsAt w w.heap.size A2 l) (hn : costs.length ≤ 100000) :
  Calls Tryz.prog 10 #[.slice A1 costs.length c1, .slice A2 l.length c2] w (RetFs (uniR costs l) (errV (chk38 costs l)) w) := by
 have k1 := fun w1 (hb : Below w.heap.size w w1) => check38_any costs l A1 A2 c1 c2 w1 (h1.up hb) (h2.up hb)
 have l1 := h1.len
 have l2 := h2.len
 by_cases e0 : chk38 costs l = 0
 case neg =>
  have Hr := Lib.hid (show uniR costs l = [] by unfold uniR; rw [if_neg e0])
  have He := Lib.hid (errV_ne e0)
  simp only [He.out] at k1
  clear e0
  go_enter Tryz.func10, Tryz.ntmps10
  go_wp2_with fail; refine (k1 _ (by exact bel)).mono ?_; rintro e w1 ⟨rfl, hb1⟩; obtain ⟨hc1, hf1, hz1, hlt1, hle1⟩ := cellsIf hb1 (by (try simp); exact rfl); (try have := s00 w w1); (try have := s01 w w1); (try have := s02 w w1); (try have := s10 w w1); (try have := s11 w w1); (try have := s12 w w1); (try have := s20 w w1); (try have := s21 w w1); (try have := s22 w w1)
  go_wp2
  refine bodyPost_ret (v := .tuple #[.slice none 0 0, .iface 49 (.int .i64 (chk38 costs l))]) (by simp [results, Tryz.results10, go_sem]) rfl ⟨⟨_, by rw [He.out], by rw [Hr.out]; exact gotFs_nil _⟩, by exact bel⟩
 have G := Lib.hid (good38 e0)
 have Hr := Lib.hid (show uniR costs l = uniL costs l l.length by unfold uniR; rw [if_pos e0])
 have hm24 := G.out.many
 simp only [e0, errV_0] at k1
 rw [e0, errV_0]
 clear e0
 have hmk := run_make_row' (P := Tryz.prog) 22 3 (.int .i64 0) 8 undI infoI rfl .i64 .i64 costs.length (by omega) (by omega)
 obtain ⟨inf, hi, iz0, iz1, iz2⟩ := info_parts infoC
 go_enter Tryz.func10, Tryz.ntmps10
 go_wp2_with fail; refine (k1 _ (by exact bel)).mono ?_; rintro e w1 ⟨rfl, hb1⟩; obtain ⟨hc1, hf1, hz1, hlt1, hle1⟩ := cellsIf hb1 (by (try simp); exact rfl); (try have := s00 w w1); (try have := s01 w w1); (try have := s02 w w1); (try have := s10 w w1); (try have := s11 w w1); (try have := s12 w w1); (try have := s20 w w1); (try have := s21 w w1); (try have := s22 w w1)
 have hbw : Below w.heap.size w w1 := by exact bel
 have hz := hbw.size
 have Hbw := Lib.hid hbw
 clear hc1 hf1 hz1 hlt1 hle1 hb1 hbw
 go_wp2
 clear hmk
 go_loopw [31] (fun i wr => ∃ k : Nat, k ≤ l.length ∧ i = .int .i64 k ∧ wr.rowIs w1.heap.size 3 costs.length (fun j => .int .i64 (manyV l k 0 j)) ∧ Below w.heap.size w wr) (fun i _ => l.length - (intOf i).toNat)
 case atStart => exact ⟨0, by omega, rfl, (World.rowIs_made w1 (.int .i64 0) costs.length 3).congr fun j _ => rfl, Hbw.out.alloc hz _⟩
 case round =>
  obtain ⟨k, hk, rfl, hrow, hbel⟩ := hrel
  by_cases hlt : k < l.length
  ·obtain ⟨b, o, S, c, ea, hb, d0, hS, d1⟩ := h2.at2 hbel hlt
   subst ea
   have hbz := hbel.size
   have g2 : b < wr.heap.size := by omega
   have j1 := hS.len
   go_wp2
   go_loopw [38] (fun i wx => ∃ j : Nat, j ≤ (cut l k).ops.length ∧ i = .int .i64 j ∧ wx.rowIs w1.heap.size 3 costs.length (fun y => .int .i64 (manyV l k j y)) ∧ Below w.heap.size w wx) (fun i _ => (cut l k).ops.length - (intOf i).toNat)
   case atStart => exact ⟨0, by omega, rfl, hrow.alloc _, by exact bel⟩
   case round =>
    obtain ⟨j, hj, rfl, hrow2, hbx⟩ := hrel
    by_cases hltj : j < (cut l k).ops.length
    ·obtain ⟨b', o', eS, hb', hc'⟩ := hS.at_ hltj
     subst eS
     have d5 := (hbx.cell (p := ⟨b', o' + j, none⟩) hb').trans (hc' j hltj)
     clear hc'
     have gop := G.out.op k hlt j hltj
     obtain ⟨x, hx⟩ : ∃ x : Nat, nth (cut l k).ops j = (x : Int) := ⟨(nth (cut l k).ops j).toNat, by omega⟩
     have HX := Lib.hid (manyV_succ (fun i hi h0 => (G.out.op k hlt i hi).2.2 h0) hltj hx)
     rw [hx] at d5 gop
     have hxl : x < costs.length := by omega
     have q0 := hrow2.cell hxl
     have q1 := hrow2.frozen x
     obtain ⟨q2, q3⟩ := manyV_bd l k j x
     clear gop hx
     go_wp2
     go_roundw
     case rel => exact ⟨j + 1, by omega, by go_num, (hrow2.set x _).congr fun y _ => (by rw [HX.out y]; by_cases e : y = x <;> simp [e]), by exact bel⟩
     case measure => simp [intOf]; omega
    ·obtain rfl : j = (cut l k).ops.length := by omega
     go_wp2
     go_roundw
     case rel => exact ⟨k + 1, by omega, by go_num, hrow2.congr fun y _ => (by rw [manyV_end, manyV_zero]), by exact bel⟩
     case measure => simp [intOf]; omega
  ·obtain rfl : k = l.length := by omega
   clear hlt hk
   go_wp2
   go_loopw [12, 52] (fun v i wt => ∃ k : Nat, k ≤ l.length ∧ i = .int .i64 k ∧ wt.ownsRow w.heap.size 45 2 v k (fc (uniL costs l k)) ∧ wt.rowIs w1.heap.size 3 costs.length (fun j => .int .i64 (cnt l j l.length)) ∧ Below w.heap.size w wt) (fun _ i _ => l.length - (intOf i).toNat)
   case atStart => exact ⟨0, by omega, rfl, World.ownsRow_nil _ _ _ _, hrow.congr fun y _ => (by rw [manyV_zero]), hbel⟩
   case round =>
    clear hrow hbel
    obtain ⟨k, hk, rfl, hown, hrow, hbel⟩ := hrel
    obtain ⟨wt, rfl⟩ : ∃ wt : World, wt = wr := ⟨_, rfl⟩
    by_cases hlt : k < l.length
    ·obtain ⟨b, o, S, c, ea, hb, d0, hS, d1⟩ := h2.at2 hbel hlt
     subst ea
     have hbz := hbel.size
     have g2 : b < wt.heap.size := by omega
     have j1 := hS.len
     have hrz := hrow.lt
     go_wp2
     go_loopw [59] (fun i wr => ∃ (j : Nat) (p q : Int), j ≤ (cut l k).ops.length ∧ i = .int .i64 j ∧ leaP costs l (cut l k).ops j = (p, q) ∧ Own2 wr (wt.heap.size + 1) p q ∧ Below wt.heap.size wt wr) (fun i _ => (cut l k).ops.length - (intOf i).toNat)
     case atStart => exact ⟨0, 0, 0, by omega, rfl, rfl, by constructor <;> first | (simp; done) | (simp; omega), by exact bel⟩
     case round =>
      obtain ⟨j, p, q, hj, rfl, hpq, hq, hbx⟩ := hrel
      have Hpq := Lib.hid hpq
      clear hpq
      obtain ⟨s0, s1, s2, s3, s4⟩ := id hq
      by_cases hltj : j < (cut l k).ops.length
      ·have hbxw := hbel.trans (hbx.mono hbz)
       have hbxz := hbx.size
       obtain ⟨b', o', eS, hb', hc'⟩ := hS.at_ hltj
       subst eS
       have d5 := (hbxw.cell (p := ⟨b', o' + j, none⟩) hb').trans (hc' j hltj)
       clear hc'
       have gop := G.out.op k hlt j hltj
       obtain ⟨p', q', hs1, hs2, hs3⟩ := shF_ok G.out hlt hltj
       have HS := Lib.hid hs1
       obtain ⟨x, hx⟩ : ∃ x : Nat, nth (cut l k).ops j = (x : Int) := ⟨(nth (cut l k).ops j).toNat, by omega⟩
       have hxl : x < costs.length := by omega
       unfold shF at hs1
       rw [hx] at d5 hs1
       simp only [Int.toNat_natCast] at hs1
       have q0 := (row_up hrow hbx).cell hxl
       obtain ⟨b1, o1, eA, hb1, d6⟩ := h1.at2 hbxw hxl
       subst eA
       have gc := G.out.cost x hxl
       have gn := cnt_le l x l.length
       have k2 := fun W => new_any (nth costs x) (cnt l x l.length : Int) W (by omega) (by omega) (by omega) (by omega)
       rw [hs1] at k2
       unfold RetFE at k2
       simp only [errV_0] at k2
       have x0 : (0 : Int) ≤ (x : Int) := by omega
       have x1 : (x : Int) < (costs.length : Int) := by omega
       have g4 : b1 < wr.heap.size := by omega
       have g5 : w1.heap.size < wr.heap.size := by omega
       clear gop gc gn hs1 hs2 hs3 hx
       go_upto_region 22 with fail
       go_cut [18, 19] (fun v18 v19 wy => ∃ b6, v18 = .pointer (some ⟨b6, 0, none⟩) ∧ v19 = .nilIface ∧ Own2 wy b6 p' q' ∧ wr.heap.size ≤ b6 ∧ Below wr.heap.size wr wy)
       case first =>
        go_wp2_with fail
        go_region_held3 (fun w' => w'.cell? ⟨b1, o1 + x, none⟩ = some (.int .i64 (nth costs x)) ∧ w'.cell? ⟨w1.heap.size, x, none⟩ = some (.int .i64 (cnt l x l.length))) (first | go_keep | (refine ⟨?_, ?_⟩ <;> (first | assumption | (rw [World.cell?_setCell_other _ _ _ _ (by first | (simp; done) | (simp; omega)), World.cell?_setCell_other _ _ _ _ (by first | (simp; done) | (simp; omega))]; first | assumption | (simp [*]; done) | (rw [World.cell?_alloc_past _ _ _ _ _ (by omega)]; assumption)) | (simp [*, World.cell?_alloc_some]; done) | (rw [World.cell?_alloc_past _ _ _ _ _ (by omega)]; assumption)))) (first | (go_at_call 26; refine (k2 _).mono ?_; rintro e w2 ⟨rfl, hb2⟩; have hbw2 : Below wr.heap.size wr w2 := (by exact bel); have z1 := (hbw2.cell (p := ⟨b1, o1 + x, none⟩) g4).trans d6; have z2 := (hbw2.cell (p := ⟨w1.heap.size, x, none⟩) g5).trans q0; have z5 := hbw2.size; obtain ⟨hc2, hf2, hz2, hlt2, hle2⟩ := cellsIf hb2 (by (try simp); exact rfl)))
        all_goals (go_wp2; go_meet)
        all_goals first
         | exact ⟨_, rfl, rfl, Own2.new, by omega, by exact bel⟩
         | exact ⟨_, rfl, rfl, Own2.put (Own2.up (Own2.drew Own2.new) hb2), by omega, by exact bel⟩
       case rest =>
        obtain ⟨b6, rfl, rfl, ho6, hb6, hbxy⟩ := hcut
        clear k2 q0 d6 d5
        have hq' := hq.up hbxy
        obtain ⟨t0, t1, t2, t3, t4⟩ := id ho6
        obtain ⟨s0, s1, s2, s3, s4⟩ := id hq'
        have hbwy := hbx.trans (hbxy.mono hbxz)
        by_cases hj0 : j = 0
        ·have z0 : ((j : Int) == 0) = true := by simp [hj0]
         have HL := Lib.hid (show leaP costs l (cut l k).ops (j + 1) = (p', q') by unfold leaP; rw [HS.out, if_pos (.inl hj0)])
         clear hj0
         go_wp2
         go_roundw
         case rel => exact ⟨j + 1, p', q', by omega, by go_num, HL.out, hq'.put, by exact bel⟩
         case measure => simp [intOf]; omega
        ·have z0 : ((j : Int) == 0) = false := by rw [beq_eq_false_iff_ne]; omega
         have Hj := Lib.hid hj0
         have k3 := fun W => cmp_any p' q' p q W
         have HL := Lib.hid (show leaP costs l (cut l k).ops (j + 1) = if cmpF p' q' p q < 0 then (p', q') else (p, q) by unfold leaP; rw [HS.out, Hpq.out]; simp only [hj0, false_or])
         clear hj0
         generalize cmpF p' q' p q = cv at k3 HL
         by_cases hcv : cv < 0
         ·have c0 : decide (cv < 0) = true := by simpa using hcv
          have HL2 := Lib.hid (HL.out.trans (if_pos hcv))
          clear hcv
          go_wp2_with fail; refine (k3 _).mono ?_; rintro e w7 ⟨rfl, hb7⟩; obtain ⟨hc7, hf7, hz7, hlt7, hle7⟩ := cellsIf hb7 (by (try simp); exact rfl)
          have hq7 := hq'.up hb7
          have ho7 := ho6.up hb7
          obtain ⟨t0, t1, t2, t3, t4⟩ := id ho7
          obtain ⟨s0, s1, s2, s3, s4⟩ := id hq7
          have hb7w := hbwy.trans (hb7.mono hbwy.size)
          clear hc7 hf7 hlt7 hle7
          go_wp2
          go_roundw
          case rel => exact ⟨j + 1, p', q', by omega, by go_num, HL2.out, hq7.put, by exact bel⟩
          case measure => simp [intOf]; omega
         ·have c0 : decide (cv < 0) = false := by simpa using hcv
          have HL2 := Lib.hid (HL.out.trans (if_neg hcv))
          clear hcv
          go_wp2_with fail; refine (k3 _).mono ?_; rintro e w7 ⟨rfl, hb7⟩; obtain ⟨hc7, hf7, hz7, hlt7, hle7⟩ := cellsIf hb7 (by (try simp); exact rfl)
          have hq7 := hq'.up hb7
          have hb7w := hbwy.trans (hb7.mono hbwy.size)
          clear hc7 hf7 hlt7 hle7
          go_wp2
          go_roundw
          case rel => exact ⟨j + 1, p, q, by omega, by go_num, HL2.out, hq7, by exact bel⟩
          case measure => simp [intOf]; omega
      ·obtain rfl : j = (cut l k).ops.length := by omega
       have HU := Lib.hid (show fc (uniL costs l (k + 1)) = fc (uniL costs l k) ++ [.int .i64 p, .int .i64 q] by rw [uniL_succ, fc_app, ← lea_eq G.out hlt _ (G.out.some k hlt) (Nat.le_refl _), Hpq.out]; rfl)
       have hown2 := own_below hown hbx
       have hrow2 := row_up hrow hbx
       have hbxw := hbel.trans (hbx.mono hbz)
       have hbxz := hbx.size
       go_wp2_with (at_builtin; refine wpList_push rfl _ _ 37 rfl w.heap.size 45 inf (.agg #[.int .i64 0, .int .i64 0]) 2 16 undC hi iz0 iz1 iz2 rfl (by decide) (by decide) u12 k (fc (uniL costs l k)) rfl (hown2.alloc _) wr.heap.size 45 [.int .i64 p, .int .i64 q] rfl rfl (heap_alloc_new _ _) (two_one rfl rfl) (by omega) (by first | omega | (simp; omega)) (B := w.heap.size) (W := w) (by exact bel) (Nat.le_refl _) ?_; intro v' w6 hown' hgrow hat hbw6; have hrow6 := row_grown (hrow2.alloc _) hgrow (row_own_ne hrow2 hown2 (by decide)); have Hown := Lib.hid hown'; have Hrow := Lib.hid hrow6; clear hown' hgrow hat hrow6)
       go_roundw
       case rel => exact ⟨k + 1, by omega, by go_num, by rw [HU.out]; exact Hown.out, Hrow.out, hbw6⟩
       case measure => simp [intOf]; omega
    ·obtain rfl : k = l.length := by omega
     obtain ⟨A, d, rfl, hAd, hfa⟩ := gotFs_own hown (uniL_len _ _ _) (by rw [uniL_len]; omega)
     have Hg := Lib.hid (show GotFs wt (.slice A (uniL costs l l.length).length d) (uniL costs l l.length) from ⟨A, d, rfl, hAd, hfa⟩)
     clear hAd hfa hown
     go_wp2
     refine bodyPost_ret (v := .tuple #[.slice A (uniL costs l l.length).length d, .nilIface]) (by simp [results, Tryz.results10, go_sem]) rfl ⟨⟨_, rfl, by rw [Hr.out]; exact Hg.out⟩, by exact bel⟩
end

section
open Go.RowKit
set_option linter.unusedVariables false

set_option maxRecDepth 4000 in
set_option maxHeartbeats 1000000 in
theorem rin_any (ops : List Int) (S : Option Addr) (c : Nat) (q o : Int) (w : World) (h : IntsAt w w.heap.size S ops) :
  Calls Tryz.prog 45 #[.agg #[.slice S ops.length c, .int .i64 q], .int .i64 o] w fun e w' => e = .returned (.bool (inN ops o ops.length)) ∧ Below w.heap.size w w' := by
 have l1 := h.len
 go_enter Tryz.func45, Tryz.ntmps45
 go_wp2
 go_loopw [10] (fun i wr => ∃ k : Nat, k ≤ ops.length ∧ i = .int .i64 k ∧ inN ops o k = false ∧ Below w.heap.size w wr) (fun i _ => ops.length - (intOf i).toNat)
 case atStart => exact ⟨0, by omega, rfl, rfl, by exact bel⟩
 case round =>
  obtain ⟨k, hk, rfl, hB, hbel⟩ := hrel
  have HB := Lib.hid hB
  clear hB
  by_cases hlt : k < ops.length
  ·obtain ⟨b, o', ea, hb, d1⟩ := h.at2 hbel hlt
   subst ea
   have hbz := hbel.size
   cases e1 : (nth ops k == o)
   ·go_wp2
    go_roundw
    case rel => exact ⟨k + 1, by omega, by go_num, (by rw [inN_succ, HB.out, e1]; rfl), hbel⟩
    case measure => simp [intOf]; omega
   ·have He := Lib.hid (show inN ops o ops.length = true from anyB_true.2 ⟨k, hlt, e1⟩)
    go_wp2
    go_ret
    exact ⟨bool_ret He.out.symm, hbel⟩
  ·obtain rfl : k = ops.length := by omega
   go_wp2
   go_ret
   exact ⟨bool_ret HB.out.symm, hbel⟩

theorem leaR_succ (costs : List Int) (l : List Cut) (ops : List Int) (i : Nat) : leaR costs l ops (i + 1) = if cmpF (shF costs l (nth ops i)).1 (shF costs l (nth ops i)).2.1 (leaR costs l ops i).1 (leaR costs l ops i).2 < 0 then ((shF costs l (nth ops i)).1, (shF costs l (nth ops i)).2.1) else leaR costs l ops i := rfl

def RetFk (l : List (Int × Int)) (c : Int) (w : World) (e : Ending) (w' : World) : Prop := (∃ v, e = .returned (.tuple #[v, .int .i64 c]) ∧ GotFs w' v l) ∧ Below w.heap.size w w'

set_option maxRecDepth 100000 in
set_option maxHeartbeats 8000000 in
theorem runiform_any (costs : List Int) (l : List Cut) (A1 A2 : Option Addr) (c1 c2 : Nat) (w : World) (h1 : IntsAt w w.heap.size A1 costs) (h2 : CutsAt w w.heap.size A2 l) :
  Calls Tryz.prog 22 #[.slice A1 costs.length c1, .slice A2 l.length c2] w (RetFk (uniR costs l) (chk38 costs l) w) := by
 have k1 := fun w1 (hb : Below w.heap.size w w1) => rcheck38_any costs l A1 A2 c1 c2 w1 (h1.up hb) (h2.up hb)
 have l1 := h1.len
 have l2 := h2.len
 by_cases e0 : chk38 costs l = 0
 case neg =>
  have Hr := Lib.hid (show uniR costs l = [] by unfold uniR; rw [if_neg e0])
  have e1 : (chk38 costs l != 0) = true := by simpa using e0
  clear e0
  go_enter Tryz.func22, Tryz.ntmps22
  go_wp2_with fail; refine (k1 _ (by exact bel)).mono ?_; rintro e w1 ⟨rfl, hb1⟩; obtain ⟨hc1, hf1, hz1, hlt1, hle1⟩ := cellsIf hb1 (by (try simp); exact rfl); (try have := s00 w w1); (try have := s01 w w1); (try have := s02 w w1); (try have := s10 w w1); (try have := s11 w w1); (try have := s12 w w1); (try have := s20 w w1); (try have := s21 w w1); (try have := s22 w w1)
  go_wp2
  refine bodyPost_ret (v := .tuple #[.slice none 0 0, .int .i64 (chk38 costs l)]) (by simp [results, Tryz.results22, go_sem]) rfl ⟨⟨_, rfl, by rw [Hr.out]; exact gotFs_nil _⟩, by exact bel⟩
 have G := Lib.hid (good38 e0)
 have Hr := Lib.hid (show uniR costs l = uniL costs l l.length by unfold uniR; rw [if_pos e0])
 have hm24 := G.out.many
 simp only [e0] at k1
 rw [e0]
 clear e0
 obtain ⟨inf, hi, iz0, iz1, iz2⟩ := info_parts infoC
 go_enter Tryz.func22, Tryz.ntmps22
 go_wp2_with fail; refine (k1 _ (by exact bel)).mono ?_; rintro e w1 ⟨rfl, hb1⟩; obtain ⟨hc1, hf1, hz1, hlt1, hle1⟩ := cellsIf hb1 (by (try simp); exact rfl); (try have := s00 w w1); (try have := s01 w w1); (try have := s02 w w1); (try have := s10 w w1); (try have := s11 w w1); (try have := s12 w w1); (try have := s20 w w1); (try have := s21 w w1); (try have := s22 w w1)
 have hbw : Below w.heap.size w w1 := by exact bel
 clear hc1 hf1 hz1 hlt1 hle1 hb1
 go_wp2
 go_loopw [7, 26] (fun v i wr => ∃ k : Nat, k ≤ l.length ∧ i = .int .i64 k ∧ wr.ownsRow w.heap.size 45 2 v k (fc (uniL costs l k)) ∧ Below w.heap.size w wr) (fun _ i _ => l.length - (intOf i).toNat)
 case atStart => exact ⟨0, by omega, rfl, World.ownsRow_nil _ _ _ _, hbw⟩
 case round =>
  clear hbw
  obtain ⟨k, hk, rfl, hown, hbel⟩ := hrel
  obtain ⟨wt, rfl⟩ : ∃ wt : World, wt = wr := ⟨_, rfl⟩
  by_cases hlt : k < l.length
  ·obtain ⟨b, o, S, c, ea, hb, d0, hS, d1⟩ := h2.at2 hbel hlt
   subst ea
   have hbz := hbel.size
   have g2 : b < wt.heap.size := by omega
   have j1 := hS.len
   go_wp2
   go_loopw [34] (fun i wx => ∃ (j : Nat) (p q : Int), j ≤ (cut l k).ops.length ∧ i = .int .i64 j ∧ leaR costs l (cut l k).ops j = (p, q) ∧ Own2 wx (wt.heap.size + 1) p q ∧ Below wt.heap.size wt wx) (fun i _ => (cut l k).ops.length - (intOf i).toNat)
   case atStart => exact ⟨0, 1048576, 1, by omega, rfl, rfl, by constructor <;> first | (simp; done) | (simp; omega), by exact bel⟩
   case round =>
    obtain ⟨j, p, q, hj, rfl, hpq, hq, hbx⟩ := hrel
    obtain ⟨wu, rfl⟩ : ∃ wu : World, wu = wr := ⟨_, rfl⟩
    have Hpq := Lib.hid hpq
    clear hpq
    by_cases hltj : j < (cut l k).ops.length
    ·have hbxw := hbel.trans (hbx.mono hbz)
     have hbxz := hbx.size
     obtain ⟨b', o', eS, hb', hc'⟩ := hS.at_ hltj
     subst eS
     have d5 := (hbxw.cell (p := ⟨b', o' + j, none⟩) hb').trans (hc' j hltj)
     clear hc'
     have gop := G.out.op k hlt j hltj
     obtain ⟨p', q', hs1, hs2, hs3⟩ := shF_ok G.out hlt hltj
     have HS := Lib.hid hs1
     obtain ⟨x, hx⟩ : ∃ x : Nat, nth (cut l k).ops j = (x : Int) := ⟨(nth (cut l k).ops j).toNat, by omega⟩
     have hxl : x < costs.length := by omega
     unfold shF at hs1
     rw [hx] at d5 hs1
     simp only [Int.toNat_natCast] at hs1
     have gc := G.out.cost x hxl
     have gn := cnt_le l x l.length
     have k2 := fun W => rnew_any (nth costs x) (cnt l x l.length : Int) W (by omega) (by omega) (by omega) (by omega)
     rw [hs1] at k2
     unfold RetFC at k2
     dsimp only at k2
     have HX := Lib.hid hx
     clear gop gc gn hs1 hs2 hs3 hx
     go_wp2
     go_loopw [13, 40] (fun m i wz => ∃ r : Nat, r ≤ l.length ∧ i = .int .i64 r ∧ m = .int .i64 (cnt l x r) ∧ Below wu.heap.size wu wz) (fun _ i _ => l.length - (intOf i).toNat)
     case atStart => exact ⟨0, by omega, rfl, rfl, Below.refl _ _⟩
     case round =>
      obtain ⟨r, hr, rfl, rfl, hby⟩ := hrel
      have hbyw := hbxw.trans (hby.mono hbxw.size)
      have hbyz := hbyw.size
      by_cases hltr : r < l.length
      ·obtain ⟨b2, o2, S2, c3, ea2, hb2, d2, hS2, d3⟩ := h2.at2 hbyw hltr
       cases ea2
       have k4 := fun w4 (hb : Below w.heap.size w w4) => rin_any (cut l r).ops S2 c3 (cut l r).cost x w4 (hS2.keep (fun _ hp => hb.cell hp) hb.size)
       have gm := cnt_le l x r
       have HC : Hid (cnt l x (r + 1) = if inN (cut l r).ops x (cut l r).ops.length then cnt l x r + 1 else cnt l x r) := Lib.hid (show cnt l x (r + 1) = if inB (cut l r) x then cnt l x r + 1 else cnt l x r from rfl)
       have j2 := hS2.len
       cases e1 : inN (cut l r).ops x (cut l r).ops.length
       ·rw [e1] at k4
        go_wp2_with fail; refine (k4 _ (by exact bel)).mono ?_; rintro e w4 ⟨rfl, hb4⟩; obtain ⟨hc4, hf4, hz4, hlt4, hle4⟩ := cellsIf hb4 (by (try simp); exact rfl)
        have hb4w := hby.trans ((show Below wr.heap.size wr w4 by exact bel).mono hby.size)
        go_wp2
        go_roundw
        case rel => exact ⟨r + 1, by omega, by go_num, (by rw [HC.out, e1]; rfl), hb4w⟩
        case measure => simp [intOf]; omega
       ·rw [e1] at k4
        go_wp2_with fail; refine (k4 _ (by exact bel)).mono ?_; rintro e w4 ⟨rfl, hb4⟩; obtain ⟨hc4, hf4, hz4, hlt4, hle4⟩ := cellsIf hb4 (by (try simp); exact rfl)
        have hb4w := hby.trans ((show Below wr.heap.size wr w4 by exact bel).mono hby.size)
        go_wp2
        go_roundw
        case rel => exact ⟨r + 1, by omega, by go_num, (by rw [HC.out, e1]; go_num), hb4w⟩
        case measure => simp [intOf]; omega
      ·obtain rfl : r = l.length := by omega
       obtain ⟨b1, o1, eA, hb1, d6⟩ := h1.at2 hbyw hxl
       subst eA
       have x0 : (0 : Int) ≤ (x : Int) := by omega
       have x1 : (x : Int) < (costs.length : Int) := by omega
       have k3 := fun W => rcmp_any p' q' p q W
       have HL := Lib.hid (show leaR costs l (cut l k).ops (j + 1) = if cmpF p' q' p q < 0 then (p', q') else (p, q) by rw [leaR_succ, HS.out, Hpq.out])
       generalize cmpF p' q' p q = cv at k3 HL
       have hq2 := hq.up hby
       go_wp2_with fail; refine (k2 _).mono ?_; rintro e w5 ⟨rfl, hb5⟩; obtain ⟨hc5, hf5, hz5, hlt5, hle5⟩ := cellsIf hb5 (by (try simp); exact rfl)
       have hb5w : Below wr.heap.size wr w5 := by exact bel
       have hq5 := hq2.up hb5w
       obtain ⟨s0, s1, s2, s3, s4⟩ := id hq5
       have hby5 := hby.trans (hb5w.mono hby.size)
       have hbx5 := hbx.trans (hby5.mono hbxz)
       have s5 := hbx5.size
       clear hc5 hf5 hlt5 hle5 d5 k2
       by_cases hcv : cv < 0
       ·have c0 : decide (cv < 0) = true := by simpa using hcv
        have HL2 := Lib.hid (HL.out.trans (if_pos hcv))
        clear hcv
        go_wp2_with fail; refine (k3 _).mono ?_; rintro e w7 ⟨rfl, hb7⟩; obtain ⟨hc7, hf7, hz7, hlt7, hle7⟩ := cellsIf hb7 (by (try simp); exact rfl)
        have hb75 : Below w5.heap.size w5 w7 := by exact bel
        have hq7 := hq5.up hb75
        have ho7 : Own2 w7 w5.heap.size p' q' := Own2.up Own2.new hb7
        obtain ⟨t0, t1, t2, t3, t4⟩ := id ho7
        obtain ⟨s0, s1, s2, s3, s4⟩ := id hq7
        have hb7w := hbx5.trans (hb75.mono hbx5.size)
        clear hc7 hf7 hlt7 hle7
        go_wp2
        go_roundw
        case rel => exact ⟨j + 1, p', q', by omega, by go_num, HL2.out, hq7.put, by exact bel⟩
        case measure => simp [intOf]; omega
       ·have c0 : decide (cv < 0) = false := by simpa using hcv
        have HL2 := Lib.hid (HL.out.trans (if_neg hcv))
        clear hcv
        go_wp2_with fail; refine (k3 _).mono ?_; rintro e w7 ⟨rfl, hb7⟩; obtain ⟨hc7, hf7, hz7, hlt7, hle7⟩ := cellsIf hb7 (by (try simp); exact rfl)
        have hb75 : Below w5.heap.size w5 w7 := by exact bel
        have hq7 := hq5.up hb75
        have hb7w := hbx5.trans (hb75.mono hbx5.size)
        clear hc7 hf7 hlt7 hle7
        go_wp2
        go_roundw
        case rel => exact ⟨j + 1, p, q, by omega, by go_num, HL2.out, hq7, hb7w⟩
        case measure => simp [intOf]; omega
    ·obtain rfl : j = (cut l k).ops.length := by omega
     have HU := Lib.hid (show fc (uniL costs l (k + 1)) = fc (uniL costs l k) ++ [.int .i64 p, .int .i64 q] by rw [uniL_succ, fc_app, Hpq.out]; rfl)
     have hown2 := own_below hown hbx
     obtain ⟨s0, s1, s2, s3, s4⟩ := id hq
     have hbxw := hbel.trans (hbx.mono hbz)
     have hbxz := hbx.size
     go_wp2_with (at_builtin; refine wpList_push rfl _ _ 37 rfl w.heap.size 45 inf (.agg #[.int .i64 0, .int .i64 0]) 2 16 undC hi iz0 iz1 iz2 rfl (by decide) (by decide) u7 k (fc (uniL costs l k)) rfl (hown2.alloc _) wu.heap.size 45 [.int .i64 p, .int .i64 q] rfl rfl (heap_alloc_new _ _) (two_one rfl rfl) (by omega) (by first | omega | (simp; omega)) (B := w.heap.size) (W := w) (by exact bel) (Nat.le_refl _) ?_; intro v' w6 hown' hgrow hat hbw6; have Hown := Lib.hid hown'; clear hown' hgrow hat)
     go_roundw
     case rel => exact ⟨k + 1, by omega, by go_num, by rw [HU.out]; exact Hown.out, hbw6⟩
     case measure => simp [intOf]; omega
  ·obtain rfl : k = l.length := by omega
   obtain ⟨A, d, rfl, hAd, hfa⟩ := gotFs_own hown (uniL_len _ _ _) (by rw [uniL_len]; omega)
   have Hg := Lib.hid (show GotFs wt (.slice A (uniL costs l l.length).length d) (uniL costs l l.length) from ⟨A, d, rfl, hAd, hfa⟩)
   clear hAd hfa hown
   go_wp2
   refine bodyPost_ret (v := .tuple #[.slice A (uniL costs l l.length).length d, .int .i64 0]) (by simp [results, Tryz.results22, go_sem]) rfl ⟨⟨_, rfl, by rw [Hr.out]; exact Hg.out⟩, by exact bel⟩
end

end Go.Proofs.YtaampjhdgeoicaaGreat
