/- PartitionChecks: plain; slices.Contains; Value (the program's, the reference's). -/
import Derived.Test.YtaampjhdgeoicaaPartE
import Derived.Test.YtaampjhdgeoicaaPartF
namespace Go.Proofs.Ytaampjhdgeoicaa
set_option linter.unusedSimpArgs false
set_option linter.unusedVariables false
open Go.RowKit
set_option linter.unusedVariables false

/-- The ceiling of the sum, or the error's number. -/
def valR (l : List (Int × Int)) : Int × Int := if (sumF l).2.2 = 0 then (ceilF (sumF l).1 (sumF l).2.1, 0) else (0, (sumF l).2.2)
set_option maxRecDepth 4000 in
set_option maxHeartbeats 1000000 in
theorem index5_any (ops : List Int) (S : Option Addr) (c : Nat) (o : Int) (w : World) (h : IntsAt w w.heap.size S ops) :
    Calls Try.prog 100 #[.slice S ops.length c, .int .i64 o] w fun e w' => (∃ i, e = .returned (.int .i64 i) ∧ decide (0 ≤ i) = inN ops o ops.length) ∧ Below w.heap.size w w' := by
  have l1 := h.len
  go_enter Try.func100, Try.ntmps100
  go_wp2
  go_loopw [8] (fun i wr => ∃ k : Nat, k ≤ ops.length ∧ i = .int .i64 k ∧ inN ops o k = false ∧ Below w.heap.size w wr) (fun i _ => ops.length - (intOf i).toNat)
  case atStart => exact ⟨0, by omega, rfl, rfl, Below.refl _ _⟩
  case round =>
    obtain ⟨k, hk, rfl, hB, hbel⟩ := hrel
    have HB := Lib.hid hB
    clear hB
    by_cases hlt : k < ops.length
    · obtain ⟨b, o', ea, hb, d1⟩ := h.at2 hbel hlt
      subst ea
      have hbz := hbel.size
      have x0 : (0 : Int) ≤ (k : Int) := by omega
      have x1 : (k : Int) < (ops.length : Int) := by omega
      by_cases q1 : o = nth ops k
      · have e1 : (o == nth ops k) = true := by simpa using q1
        have He := Lib.hid (show inN ops o ops.length = true from anyB_true.2 ⟨k, hlt, by simp [q1]⟩)
        clear q1
        go_wp2
        go_ret
        exact ⟨⟨_, rfl, by rw [He.out]; simp⟩, hbel⟩
      · have e1 : (o == nth ops k) = false := by simpa using q1
        have He := Lib.hid (show (nth ops k == o) = false by simp; omega)
        clear q1
        go_wp2
        go_roundw
        case rel => exact ⟨k + 1, by omega, by go_num, (by rw [inN_succ, HB.out, He.out]; rfl), hbel⟩
        case measure => simp [intOf]; omega
    · obtain rfl : k = ops.length := by omega
      go_wp2
      go_ret
      exact ⟨⟨_, rfl, by rw [HB.out]; rfl⟩, hbel⟩

set_option maxHeartbeats 1000000 in
theorem contains5_any (ops : List Int) (S : Option Addr) (c : Nat) (o : Int) (w : World) (h : IntsAt w w.heap.size S ops) :
    Calls Try.prog 66 #[.slice S ops.length c, .int .i64 o] w fun e w' => e = .returned (.bool (inN ops o ops.length)) ∧ Below w.heap.size w w' := by
  have k1 := fun w1 (hb : Below w.heap.size w w1) => index5_any ops S c o w1 (h.up hb)
  go_enter Try.func66, Try.ntmps66
  go_wp2_with fail
  refine (k1 _ (by repeat (first | exact Below.refl _ _ | refine below_dN ?_ _ | refine Below.drew ?_ | refine Below.alloc ?_ (by first | omega | (simp; done) | (simp; omega)) _ | refine Below.setCell ?_ (by first | omega | (simp; done) | (simp; omega)) _ | refine below_step (by assumption) (by first | omega | (simp; done) | (simp; omega)) ?_))).mono ?_
  rintro e w1 ⟨⟨i, rfl, hi⟩, hb1⟩
  have Hi := Lib.hid hi
  clear hi
  go_wp2
  go_ret
  exact ⟨bool_ret Hi.out, by repeat (first | exact Below.refl _ _ | refine below_dN ?_ _ | refine Below.drew ?_ | refine Below.alloc ?_ (by first | omega | (simp; done) | (simp; omega)) _ | refine Below.setCell ?_ (by first | omega | (simp; done) | (simp; omega)) _ | refine below_step (by assumption) (by first | omega | (simp; done) | (simp; omega)) ?_)⟩

set_option maxRecDepth 4000 in
set_option maxHeartbeats 1000000 in
theorem value38_any (l : List (Int × Int)) (A : Option Addr) (c : Nat) (w : World) (h : FactsAt w w.heap.size A l) :
    Calls Try.prog 86 #[.slice A l.length c] w fun e w' => e = .returned (.tuple #[.int .i64 (valR l).1, errV (valR l).2]) ∧ Below w.heap.size w w' := by
  have k1 := fun w1 (hb : Below w.heap.size w w1) => sum_any l A c w1 (h.up hb)
  have hv : valR l = if (sumF l).2.2 = 0 then (ceilF (sumF l).1 (sumF l).2.1, 0) else (0, (sumF l).2.2) := rfl
  obtain ⟨⟨n, d, code⟩, hs⟩ : ∃ r, sumF l = r := ⟨_, rfl⟩
  rw [hs] at k1 hv
  clear hs
  unfold RetFE at k1
  dsimp only at k1 hv
  by_cases h0 : code = 0
  · subst h0
    rw [if_pos rfl] at hv
    rw [hv]
    clear hv
    simp only [errV_0] at k1 ⊢
    have k2 := fun w1 => ceil_any n d w1
    generalize ceilF n d = C at *
    go_enter Try.func86, Try.ntmps86
    go_wp2_with fail; refine (k1 _ (by repeat (first | exact Below.refl _ _ | refine below_dN ?_ _ | refine Below.drew ?_ | refine Below.alloc ?_ (by first | omega | (simp; done) | (simp; omega)) _ | refine Below.setCell ?_ (by first | omega | (simp; done) | (simp; omega)) _ | refine below_step (by assumption) (by first | omega | (simp; done) | (simp; omega)) ?_))).mono ?_; rintro e w1 ⟨rfl, hb1⟩; obtain ⟨hc1, hf1, hz1, hlt1, hle1⟩ := cellsIf hb1 (by (try simp); exact rfl); (try have : w.heap.size < w1.heap.size := (by omega)); (try have : w.heap.size < w1.heap.size + 1 := (by omega)); (try have : w.heap.size < w1.heap.size + 1 + 1 := (by omega)); (try have : w.heap.size + 1 < w1.heap.size := (by omega)); (try have : w.heap.size + 1 < w1.heap.size + 1 := (by omega)); (try have : w.heap.size + 1 < w1.heap.size + 1 + 1 := (by omega)); (try have : w.heap.size + 1 + 1 < w1.heap.size := (by omega)); (try have : w.heap.size + 1 + 1 < w1.heap.size + 1 := (by omega)); (try have : w.heap.size + 1 + 1 < w1.heap.size + 1 + 1 := (by omega))
    go_wp2_with fail; refine (k2 _).mono ?_; rintro e w2 ⟨rfl, hb2⟩; obtain ⟨hc2, hf2, hz2, hlt2, hle2⟩ := cellsIf hb2 (by (try simp); exact rfl); (try have : w.heap.size < w2.heap.size := (by omega)); (try have : w.heap.size < w2.heap.size + 1 := (by omega)); (try have : w.heap.size < w2.heap.size + 1 + 1 := (by omega)); (try have : w.heap.size + 1 < w2.heap.size := (by omega)); (try have : w.heap.size + 1 < w2.heap.size + 1 := (by omega)); (try have : w.heap.size + 1 < w2.heap.size + 1 + 1 := (by omega)); (try have : w.heap.size + 1 + 1 < w2.heap.size := (by omega)); (try have : w.heap.size + 1 + 1 < w2.heap.size + 1 := (by omega)); (try have : w.heap.size + 1 + 1 < w2.heap.size + 1 + 1 := (by omega)); (try have : w1.heap.size < w2.heap.size := (by omega)); (try have : w1.heap.size < w2.heap.size + 1 := (by omega)); (try have : w1.heap.size < w2.heap.size + 1 + 1 := (by omega)); (try have : w1.heap.size + 1 < w2.heap.size := (by omega)); (try have : w1.heap.size + 1 < w2.heap.size + 1 := (by omega)); (try have : w1.heap.size + 1 < w2.heap.size + 1 + 1 := (by omega)); (try have : w1.heap.size + 1 + 1 < w2.heap.size := (by omega)); (try have : w1.heap.size + 1 + 1 < w2.heap.size + 1 := (by omega)); (try have : w1.heap.size + 1 + 1 < w2.heap.size + 1 + 1 := (by omega))
    go_wp2
    go_ret2
    exact ⟨rfl, by repeat (first | exact Below.refl _ _ | refine below_dN ?_ _ | refine Below.drew ?_ | refine Below.alloc ?_ (by first | omega | (simp; done) | (simp; omega)) _ | refine Below.setCell ?_ (by first | omega | (simp; done) | (simp; omega)) _ | refine below_step (by assumption) (by first | omega | (simp; done) | (simp; omega)) ?_)⟩
  · rw [if_neg h0] at hv
    rw [hv]
    clear hv
    have He := Lib.hid (errV_ne h0)
    simp only [He.out] at k1 ⊢
    clear h0
    go_enter Try.func86, Try.ntmps86
    go_wp2_with fail; refine (k1 _ (by repeat (first | exact Below.refl _ _ | refine below_dN ?_ _ | refine Below.drew ?_ | refine Below.alloc ?_ (by first | omega | (simp; done) | (simp; omega)) _ | refine Below.setCell ?_ (by first | omega | (simp; done) | (simp; omega)) _ | refine below_step (by assumption) (by first | omega | (simp; done) | (simp; omega)) ?_))).mono ?_; rintro e w1 ⟨rfl, hb1⟩; obtain ⟨hc1, hf1, hz1, hlt1, hle1⟩ := cellsIf hb1 (by (try simp); exact rfl); (try have : w.heap.size < w1.heap.size := (by omega)); (try have : w.heap.size < w1.heap.size + 1 := (by omega)); (try have : w.heap.size < w1.heap.size + 1 + 1 := (by omega)); (try have : w.heap.size + 1 < w1.heap.size := (by omega)); (try have : w.heap.size + 1 < w1.heap.size + 1 := (by omega)); (try have : w.heap.size + 1 < w1.heap.size + 1 + 1 := (by omega)); (try have : w.heap.size + 1 + 1 < w1.heap.size := (by omega)); (try have : w.heap.size + 1 + 1 < w1.heap.size + 1 := (by omega)); (try have : w.heap.size + 1 + 1 < w1.heap.size + 1 + 1 := (by omega))
    go_wp2
    go_ret2
    exact ⟨rfl, by repeat (first | exact Below.refl _ _ | refine below_dN ?_ _ | refine Below.drew ?_ | refine Below.alloc ?_ (by first | omega | (simp; done) | (simp; omega)) _ | refine Below.setCell ?_ (by first | omega | (simp; done) | (simp; omega)) _ | refine below_step (by assumption) (by first | omega | (simp; done) | (simp; omega)) ?_)⟩

end Go.Proofs.Ytaampjhdgeoicaa
