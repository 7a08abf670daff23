/- PartitionChecks: plain; slices.Contains; Value (the program's, the reference's). -/
import Derived.Test.YtaampjhdgeoicaaGreatMfA
import Derived.Test.YtaampjhdgeoicaaGreatPartE
import Derived.Test.YtaampjhdgeoicaaGreatPartF
namespace Go.Proofs.YtaampjhdgeoicaaGreat
set_option linter.unusedSimpArgs false
set_option linter.unusedVariables false
open Go.RowKit
set_option linter.unusedVariables false

/-- The ceiling of the sum, or the error's number. -/
def valR (l : List (Int × Int)) : Int × Int := if (sumF l).2.2 = 0 then (ceilF (sumF l).1 (sumF l).2.1, 0) else (0, (sumF l).2.2)
/-- A value that is not proper or is negative. -/
def badF (l : List (Int × Int)) (k : Nat) : Bool := !prB (fv l k) (fx l k) || decide (fv l k < 0)
/-- The values of the first k cuts that contain an operator. -/
def paidK (l : List Cut) (v : List (Int × Int)) (o : Int) : Nat → List (Int × Int)
 | 0 => []
 | k + 1 => if inB (cut l k) o then paidK l v o k ++ [(fv v k, fx v k)] else paidK l v o k
theorem paidK_yes {l : List Cut} {v : List (Int × Int)} {o : Int} {k : Nat} (h : inN (cut l k).ops o (cut l k).ops.length = true) : paidK l v o (k + 1) = paidK l v o k ++ [(fv v k, fx v k)] := by
 show (if inB (cut l k) o then _ else _) = _
 unfold inB; rw [if_pos h]
theorem paidK_no {l : List Cut} {v : List (Int × Int)} {o : Int} {k : Nat} (h : inN (cut l k).ops o (cut l k).ops.length = false) : paidK l v o (k + 1) = paidK l v o k := by
 show (if inB (cut l k) o then _ else _) = _
 unfold inB; rw [if_neg (by rw [h]; decide)]
/-- An operator whose values sum to more than its cost, or whose sum is an error. -/
def overO (costs : List Int) (l : List Cut) (v : List (Int × Int)) (o : Nat) : Bool := decide ((sumF (paidK l v o l.length)).2.2 ≠ 0) || decide (0 < cmpF (sumF (paidK l v o l.length)).1 (sumF (paidK l v o l.length)).2.1 (nth costs o) 1)
def vldB (costs : List Int) (l : List Cut) (v : List (Int × Int)) : Bool := (decide (chk38 costs l = 0) && decide (v.length = l.length)) && (!anyB v.length (badF v) && !anyB costs.length (overO costs l v))
set_option maxRecDepth 4000 in
set_option maxHeartbeats 1000000 in
theorem index5_any (ops : List Int) (S : Option Addr) (c : Nat) (o : Int) (w : World) (h : IntsAt w w.heap.size S ops) :
  Calls Tryz.prog 110 #[.slice S ops.length c, .int .i64 o] w fun e w' => (∃ i, e = .returned (.int .i64 i) ∧ decide (0 ≤ i) = inN ops o ops.length) ∧ Below w.heap.size w w' := by
 have l1 := h.len
 go_enter Tryz.func110, Tryz.ntmps110
 go_wp2
 go_loopw [8] (fun i wr => ∃ k : Nat, k ≤ ops.length ∧ i = .int .i64 k ∧ inN ops o k = false ∧ Below w.heap.size w wr) (fun i _ => ops.length - (intOf i).toNat)
 case atStart => exact ⟨0, by omega, rfl, rfl, Below.refl _ _⟩
 case round =>
  obtain ⟨k, hk, rfl, hB, hbel⟩ := hrel
  have HB := Lib.hid hB
  clear hB
  by_cases hlt : k < ops.length
  ·obtain ⟨b, o', ea, hb, d1⟩ := h.at2 hbel hlt
   subst ea
   have hbz := hbel.size
   have x0 : (0 : Int) ≤ (k : Int) := by omega
   have x1 : (k : Int) < (ops.length : Int) := by omega
   by_cases q1 : o = nth ops k
   ·have e1 : (o == nth ops k) = true := by simpa using q1
    have He := Lib.hid (show inN ops o ops.length = true from anyB_true.2 ⟨k, hlt, by simp [q1]⟩)
    clear q1
    go_wp2
    go_ret
    exact ⟨⟨_, rfl, by rw [He.out]; simp⟩, hbel⟩
   ·have e1 : (o == nth ops k) = false := by simpa using q1
    have He := Lib.hid (show (nth ops k == o) = false by simp; omega)
    clear q1
    go_wp2
    go_roundw
    case rel => exact ⟨k + 1, by omega, by go_num, (by rw [inN_succ, HB.out, He.out]; rfl), hbel⟩
    case measure => simp [intOf]; omega
  ·obtain rfl : k = ops.length := by omega
   go_wp2
   go_ret
   exact ⟨⟨_, rfl, by rw [HB.out]; rfl⟩, hbel⟩

set_option maxHeartbeats 1000000 in
theorem contains5_any (ops : List Int) (S : Option Addr) (c : Nat) (o : Int) (w : World) (h : IntsAt w w.heap.size S ops) :
  Calls Tryz.prog 92 #[.slice S ops.length c, .int .i64 o] w fun e w' => e = .returned (.bool (inN ops o ops.length)) ∧ Below w.heap.size w w' := by
 have k1 := fun w1 (hb : Below w.heap.size w w1) => index5_any ops S c o w1 (h.up hb)
 go_enter Tryz.func92, Tryz.ntmps92
 go_wp2_with fail
 refine (k1 _ (by exact bel)).mono ?_
 rintro e w1 ⟨⟨i, rfl, hi⟩, hb1⟩
 have Hi := Lib.hid hi
 clear hi
 go_wp2
 go_ret
 exact ⟨bool_ret Hi.out, by exact bel⟩

set_option maxRecDepth 4000 in
set_option maxHeartbeats 1000000 in
theorem value38_any (l : List (Int × Int)) (A : Option Addr) (c : Nat) (w : World) (h : FactsAt w w.heap.size A l) :
  Calls Tryz.prog 40 #[.slice A l.length c] w fun e w' => e = .returned (.tuple #[.int .i64 (valR l).1, errV (valR l).2]) ∧ Below w.heap.size w w' := by
 have k1 := fun w1 (hb : Below w.heap.size w w1) => sum_any l A c w1 (h.up hb)
 have hv : valR l = if (sumF l).2.2 = 0 then (ceilF (sumF l).1 (sumF l).2.1, 0) else (0, (sumF l).2.2) := rfl
 obtain ⟨⟨n, d, code⟩, hs⟩ : ∃ r, sumF l = r := ⟨_, rfl⟩
 rw [hs] at k1 hv
 clear hs
 unfold RetFE at k1
 dsimp only at k1 hv
 by_cases h0 : code = 0
 ·subst h0
  rw [if_pos rfl] at hv
  rw [hv]
  clear hv
  simp only [errV_0] at k1 ⊢
  have k2 := fun w1 => ceil_any n d w1
  generalize ceilF n d = C at *
  go_enter Tryz.func40, Tryz.ntmps40
  go_wp2_with fail; refine (k1 _ (by exact bel)).mono ?_; rintro e w1 ⟨rfl, hb1⟩; obtain ⟨hc1, hf1, hz1, hlt1, hle1⟩ := cellsIf hb1 (by (try simp); exact rfl); (try have := s00 w w1); (try have := s01 w w1); (try have := s02 w w1); (try have := s10 w w1); (try have := s11 w w1); (try have := s12 w w1); (try have := s20 w w1); (try have := s21 w w1); (try have := s22 w w1)
  go_wp2_with fail; refine (k2 _).mono ?_; rintro e w2 ⟨rfl, hb2⟩; obtain ⟨hc2, hf2, hz2, hlt2, hle2⟩ := cellsIf hb2 (by (try simp); exact rfl); (try have := s00 w w2); (try have := s01 w w2); (try have := s02 w w2); (try have := s10 w w2); (try have := s11 w w2); (try have := s12 w w2); (try have := s20 w w2); (try have := s21 w w2); (try have := s22 w w2); (try have := s00 w1 w2); (try have := s01 w1 w2); (try have := s02 w1 w2); (try have := s10 w1 w2); (try have := s11 w1 w2); (try have := s12 w1 w2); (try have := s20 w1 w2); (try have := s21 w1 w2); (try have := s22 w1 w2)
  go_wp2
  go_ret2
  exact ⟨rfl, by exact bel⟩
 ·rw [if_neg h0] at hv
  rw [hv]
  clear hv
  have He := Lib.hid (errV_ne h0)
  simp only [He.out] at k1 ⊢
  clear h0
  go_enter Tryz.func40, Tryz.ntmps40
  go_wp2_with fail; refine (k1 _ (by exact bel)).mono ?_; rintro e w1 ⟨rfl, hb1⟩; obtain ⟨hc1, hf1, hz1, hlt1, hle1⟩ := cellsIf hb1 (by (try simp); exact rfl); (try have := s00 w w1); (try have := s01 w w1); (try have := s02 w w1); (try have := s10 w w1); (try have := s11 w w1); (try have := s12 w w1); (try have := s20 w w1); (try have := s21 w w1); (try have := s22 w w1)
  go_wp2
  go_ret2
  exact ⟨rfl, by exact bel⟩

set_option maxRecDepth 4000 in
set_option maxHeartbeats 1000000 in
theorem rvalue38_any (l : List (Int × Int)) (A : Option Addr) (c : Nat) (w : World) (h : FactsAt w w.heap.size A l) :
  Calls Tryz.prog 24 #[.slice A l.length c] w fun e w' => e = .returned (.tuple #[.int .i64 (valR l).1, .int .i64 (valR l).2]) ∧ Below w.heap.size w w' := by
 have k1 := fun w1 (hb : Below w.heap.size w w1) => rsum_any l A c w1 (h.up hb)
 have hv : valR l = if (sumF l).2.2 = 0 then (ceilF (sumF l).1 (sumF l).2.1, 0) else (0, (sumF l).2.2) := rfl
 obtain ⟨⟨n, d, code⟩, hs⟩ : ∃ r, sumF l = r := ⟨_, rfl⟩
 rw [hs] at k1 hv
 clear hs
 unfold RetFC at k1
 dsimp only at k1 hv
 by_cases h0 : code = 0
 ·subst h0
  rw [if_pos rfl] at hv
  rw [hv]
  clear hv
  have k2 := fun w1 => rceil_any n d w1
  generalize ceilF n d = C at *
  go_enter Tryz.func24, Tryz.ntmps24
  go_wp2_with fail; refine (k1 _ (by exact bel)).mono ?_; rintro e w1 ⟨rfl, hb1⟩; obtain ⟨hc1, hf1, hz1, hlt1, hle1⟩ := cellsIf hb1 (by (try simp); exact rfl); (try have := s00 w w1); (try have := s01 w w1); (try have := s02 w w1); (try have := s10 w w1); (try have := s11 w w1); (try have := s12 w w1); (try have := s20 w w1); (try have := s21 w w1); (try have := s22 w w1)
  go_wp2_with fail; refine (k2 _).mono ?_; rintro e w2 ⟨rfl, hb2⟩; obtain ⟨hc2, hf2, hz2, hlt2, hle2⟩ := cellsIf hb2 (by (try simp); exact rfl); (try have := s00 w w2); (try have := s01 w w2); (try have := s02 w w2); (try have := s10 w w2); (try have := s11 w w2); (try have := s12 w w2); (try have := s20 w w2); (try have := s21 w w2); (try have := s22 w w2); (try have := s00 w1 w2); (try have := s01 w1 w2); (try have := s02 w1 w2); (try have := s10 w1 w2); (try have := s11 w1 w2); (try have := s12 w1 w2); (try have := s20 w1 w2); (try have := s21 w1 w2); (try have := s22 w1 w2)
  go_wp2
  go_ret2
  exact ⟨rfl, by exact bel⟩
 ·rw [if_neg h0] at hv
  rw [hv]
  clear hv
  have e1 : (code != 0) = true := by simpa using h0
  clear h0
  go_enter Tryz.func24, Tryz.ntmps24
  go_wp2_with fail; refine (k1 _ (by exact bel)).mono ?_; rintro e w1 ⟨rfl, hb1⟩; obtain ⟨hc1, hf1, hz1, hlt1, hle1⟩ := cellsIf hb1 (by (try simp); exact rfl); (try have := s00 w w1); (try have := s01 w w1); (try have := s02 w w1); (try have := s10 w w1); (try have := s11 w w1); (try have := s12 w w1); (try have := s20 w w1); (try have := s21 w w1); (try have := s22 w w1)
  go_wp2
  go_ret2
  exact ⟨rfl, by exact bel⟩

set_option maxHeartbeats 400000 in
theorem number_any (n : Int) (w : World) : Calls Tryz.prog 48 #[.int .i64 n] w fun e w' => e = .returned (.agg #[.int .i64 n, .int .i64 1]) ∧ Below w.heap.size w w' := by
 go_enter Tryz.func48, Tryz.ntmps48
 go_wp2
 refine bodyPost_ret (v := .agg #[.int .i64 n, .int .i64 1]) (by simp [results, Tryz.results48, go_sem]) rfl ⟨rfl, ?_⟩
 exact bel

end Go.Proofs.YtaampjhdgeoicaaGreat
