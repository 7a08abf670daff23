/- PartitionChecks: plain; slices.Contains; Value (the program's, the reference's). -/
import Derived.Test.YtaomaopbdilmnaaPartE
import Derived.Test.YtaomaopbdilmnaaPartF
namespace Go.Proofs.Ytaomaopbdilmnaa
set_option linter.unusedSimpArgs false
set_option linter.unusedVariables false
open Go.RowKit
set_option linter.unusedVariables false

/-- The ceiling of the sum, or the error's number. -/
def valR (l : List (Int × Int)) : Int × Int := if (sumF l).2.2 = 0 then (ceilF (sumF l).1 (sumF l).2.1, 0) else (0, (sumF l).2.2)
/-- A value that is not proper or is negative. -/
def badF (l : List (Int × Int)) (k : Nat) : Bool := !prB (fv l k) (fx l k) || decide (fv l k < 0)
/-- The values of the first k cuts that contain an operator. -/
def paidK (l : List Cut) (v : List (Int × Int)) (o : Int) : Nat → List (Int × Int)
  | 0 => []
  | k + 1 => if inB (cut l k) o then paidK l v o k ++ [(fv v k, fx v k)] else paidK l v o k
theorem paidK_len (l : List Cut) (v : List (Int × Int)) (o : Int) : ∀ k, (paidK l v o k).length ≤ k
  | 0 => Nat.le_refl _
  | k + 1 => by
    have := paidK_len l v o k
    show (if inB (cut l k) o then paidK l v o k ++ [(fv v k, fx v k)] else paidK l v o k).length ≤ _
    split
    · rw [List.length_append]; simp; omega
    · omega
theorem paidK_yes {l : List Cut} {v : List (Int × Int)} {o : Int} {k : Nat} (h : inN (cut l k).ops o (cut l k).ops.length = true) : paidK l v o (k + 1) = paidK l v o k ++ [(fv v k, fx v k)] := by
  show (if inB (cut l k) o then _ else _) = _
  unfold inB; rw [if_pos h]
theorem paidK_no {l : List Cut} {v : List (Int × Int)} {o : Int} {k : Nat} (h : inN (cut l k).ops o (cut l k).ops.length = false) : paidK l v o (k + 1) = paidK l v o k := by
  show (if inB (cut l k) o then _ else _) = _
  unfold inB; rw [if_neg (by rw [h]; decide)]
/-- An operator whose values sum to more than its cost, or whose sum is an error. -/
def overO (costs : List Int) (l : List Cut) (v : List (Int × Int)) (o : Nat) : Bool := decide ((sumF (paidK l v o l.length)).2.2 ≠ 0) || decide (0 < cmpF (sumF (paidK l v o l.length)).1 (sumF (paidK l v o l.length)).2.1 (nth costs o) 1)
def vldB (costs : List Int) (l : List Cut) (v : List (Int × Int)) : Bool := (decide (chk38 costs l = 0) && decide (v.length = l.length)) && (!anyB v.length (badF v) && !anyB costs.length (overO costs l v))
theorem vld_chk {costs : List Int} {l : List Cut} {v : List (Int × Int)} (h : chk38 costs l ≠ 0) : vldB costs l v = false := by unfold vldB; simp [h]
theorem vld_len {costs : List Int} {l : List Cut} {v : List (Int × Int)} (h : v.length ≠ l.length) : vldB costs l v = false := by unfold vldB; simp [h]
theorem vld_bad {costs : List Int} {l : List Cut} {v : List (Int × Int)} {k : Nat} (hk : k < v.length) (h : badF v k = true) : vldB costs l v = false := by
  have : anyB v.length (badF v) = true := anyB_true.2 ⟨k, hk, h⟩
  unfold vldB; rw [this]; simp
theorem vld_over {costs : List Int} {l : List Cut} {v : List (Int × Int)} {k : Nat} (hk : k < costs.length) (h : overO costs l v k = true) : vldB costs l v = false := by
  have : anyB costs.length (overO costs l v) = true := anyB_true.2 ⟨k, hk, h⟩
  unfold vldB; rw [this]; simp
theorem vld_good {costs : List Int} {l : List Cut} {v : List (Int × Int)} (h0 : chk38 costs l = 0) (h1 : v.length = l.length) (h2 : anyB v.length (badF v) = false) (h3 : anyB costs.length (overO costs l v) = false) : vldB costs l v = true := by
  unfold vldB; rw [h2, h3]; simp [h0, h1]

set_option maxRecDepth 4000 in
set_option maxHeartbeats 1000000 in
theorem index5_any (ops : List Int) (S : Option Addr) (c : Nat) (o : Int) (w : World) (h : IntsAt w w.heap.size S ops) :
    Calls Try.prog 94 #[.slice S ops.length c, .int .i64 o] w fun e w' => (∃ i, e = .returned (.int .i64 i) ∧ decide (0 ≤ i) = inN ops o ops.length) ∧ Below w.heap.size w w' := by
  have l1 := h.len
  go_enter Try.func94, Try.ntmps94
  go_wp2
  go_loopw [8] (fun i wr => ∃ k : Nat, k ≤ ops.length ∧ i = .int .i64 k ∧ inN ops o k = false ∧ Below w.heap.size w wr) (fun i _ => ops.length - (intOf i).toNat)
  case atStart => exact ⟨0, by omega, rfl, rfl, Below.refl _ _⟩
  case round =>
    obtain ⟨k, hk, rfl, hB, hbel⟩ := hrel
    have HB := Lib.hid hB
    clear hB
    by_cases hlt : k < ops.length
    · obtain ⟨b, o', ea, hb, d1⟩ := h.at2 hbel hlt
      subst ea
      have hbz := hbel.size
      have x0 : (0 : Int) ≤ (k : Int) := by omega
      have x1 : (k : Int) < (ops.length : Int) := by omega
      by_cases q1 : o = nth ops k
      · have e1 : (o == nth ops k) = true := by simpa using q1
        have He := Lib.hid (show inN ops o ops.length = true from anyB_true.2 ⟨k, hlt, by simp [q1]⟩)
        clear q1
        go_wp2
        go_ret
        exact ⟨⟨_, rfl, by rw [He.out]; simp⟩, hbel⟩
      · have e1 : (o == nth ops k) = false := by simpa using q1
        have He := Lib.hid (show (nth ops k == o) = false by simp; omega)
        clear q1
        go_wp2
        go_roundw
        case rel => exact ⟨k + 1, by omega, by go_num, (by rw [inN_succ, HB.out, He.out]; rfl), hbel⟩
        case measure => simp [intOf]; omega
    · obtain rfl : k = ops.length := by omega
      go_wp2
      go_ret
      exact ⟨⟨_, rfl, by rw [HB.out]; rfl⟩, hbel⟩

set_option maxHeartbeats 1000000 in
theorem contains5_any (ops : List Int) (S : Option Addr) (c : Nat) (o : Int) (w : World) (h : IntsAt w w.heap.size S ops) :
    Calls Try.prog 74 #[.slice S ops.length c, .int .i64 o] w fun e w' => e = .returned (.bool (inN ops o ops.length)) ∧ Below w.heap.size w w' := by
  have k1 := fun w1 (hb : Below w.heap.size w w1) => index5_any ops S c o w1 (h.up hb)
  go_enter Try.func74, Try.ntmps74
  go_wp2_with fail
  refine (k1 _ (by repeat (first | exact Below.refl _ _ | refine below_dN ?_ _ | refine Below.drew ?_ | refine Below.alloc ?_ (by first | omega | (simp; done) | (simp; omega)) _ | refine Below.setCell ?_ (by first | omega | (simp; done) | (simp; omega)) _ | refine below_step (by assumption) (by first | omega | (simp; done) | (simp; omega)) ?_))).mono ?_
  rintro e w1 ⟨⟨i, rfl, hi⟩, hb1⟩
  have Hi := Lib.hid hi
  clear hi
  go_wp2
  go_ret
  exact ⟨bool_ret Hi.out, by repeat (first | exact Below.refl _ _ | refine below_dN ?_ _ | refine Below.drew ?_ | refine Below.alloc ?_ (by first | omega | (simp; done) | (simp; omega)) _ | refine Below.setCell ?_ (by first | omega | (simp; done) | (simp; omega)) _ | refine below_step (by assumption) (by first | omega | (simp; done) | (simp; omega)) ?_)⟩

set_option maxHeartbeats 400000 in
theorem number_any (n : Int) (w : World) : Calls Try.prog 67 #[.int .i64 n] w fun e w' => e = .returned (.agg #[.int .i64 n, .int .i64 1]) ∧ Below w.heap.size w w' := by
  go_enter Try.func67, Try.ntmps67
  go_wp2
  refine bodyPost_ret (v := .agg #[.int .i64 n, .int .i64 1]) (by simp [results, Try.results67, go_sem]) rfl ⟨rfl, ?_⟩
  repeat (first | exact Below.refl _ _ | refine below_dN ?_ _ | refine Below.drew ?_ | refine Below.alloc ?_ (by first | omega | (simp; done) | (simp; omega)) _ | refine Below.setCell ?_ (by first | omega | (simp; done) | (simp; omega)) _ | refine below_step (by assumption) (by first | omega | (simp; done) | (simp; omega)) ?_)

end Go.Proofs.Ytaomaopbdilmnaa
