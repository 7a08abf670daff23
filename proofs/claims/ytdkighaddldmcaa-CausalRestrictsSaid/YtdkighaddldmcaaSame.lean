/- base.Facts, base.Effects, base.Tasks at equal tasks. -/
import Derived.Test.YtdkighaddldmcaaTaskQ
import Derived.Test.YtdkighaddldmcaaTaskD
import Derived.Test.YtdkighaddldmcaaKb
import Derived.Deep.DeepCutAuto
namespace Go.Proofs.Ytdkighaddldmcaa
set_option linter.unusedSimpArgs false
set_option linter.unusedVariables false
open Go Go.RowKit
set_option linter.unusedVariables false

set_option maxRecDepth 100000 in
set_option maxHeartbeats 2000000 in
theorem bfacts_same (l : List (Int × Int)) (A1 A2 : Option Addr) (c1 c2 : Nat) (w : World) (h1 : FactsAt w w.heap.size A1 l) (h2 : FactsAt w w.heap.size A2 l) :
    Calls Try.prog 35 #[.slice A1 l.length c1, .slice A2 l.length c2] w fun e w' => e = .returned (.bool true) ∧ Below w.heap.size w w' := by
  have l1 := h1.len
  go_enter Try.func35, Try.ntmps35
  go_wp2
  go_loopw [13] (fun i wr => ∃ k : Nat, k ≤ l.length ∧ i = .int .i64 k ∧ Below w.heap.size w wr) (fun i _ => l.length - (intOf i).toNat)
  case atStart => exact ⟨0, by omega, rfl, Below.refl _ _⟩
  case round =>
    obtain ⟨k, hk, rfl, hbel⟩ := hrel
    by_cases hlt : k < l.length
    · obtain ⟨b1, o1, e1, hb1, hc1⟩ := h1.at_ hlt
      obtain ⟨b2, o2, e2, hb2, hc2⟩ := h2.at_ hlt
      subst e1 e2
      have d1 := (hbel.cell (p := ⟨b1, o1 + k * 2, none⟩) hb1).trans (hc1 k hlt).1
      have d2 := (hbel.cell (p := ⟨b1, o1 + k * 2 + 1, none⟩) hb1).trans (hc1 k hlt).2
      have d3 := (hbel.cell (p := ⟨b2, o2 + k * 2, none⟩) hb2).trans (hc2 k hlt).1
      have d4 := (hbel.cell (p := ⟨b2, o2 + k * 2 + 1, none⟩) hb2).trans (hc2 k hlt).2
      have g1 : (k : Int) < l.length := by omega
      have g0 : (0 : Int) ≤ (k : Int) := by omega
      clear hc1 hc2
      have hne : ∀ w, (binOp .neq 28 (.agg #[.int .i64 (fv l k), .int .i64 (fx l k)]) (.agg #[.int .i64 (fv l k), .int .i64 (fx l k)])).run Try.prog w = .ok (.bool false) w := by
        intro w; simp [go_sem]
      go_wp2_with fail
      go_quiet (fail)
      go_wp2
      go_roundw
      case rel => exact ⟨k + 1, by omega, by go_num, by repeat (first | exact Below.refl _ _ | refine below_dN ?_ _ | refine Below.drew ?_ | refine Below.alloc ?_ (by first | omega | (simp; done) | (simp; omega)) _ | refine Below.setCell ?_ (by first | omega | (simp; done) | (simp; omega)) _ | refine below_step (by assumption) (by first | omega | (simp; done) | (simp; omega)) ?_)⟩
      case measure => simp [intOf]; omega
    · go_wp2
      go_ret
      exact ⟨rfl, hbel⟩

set_option maxRecDepth 100000 in
set_option maxHeartbeats 4000000 in
theorem beffs_same (l : List Eff) (A1 A2 : Option Addr) (c1 c2 : Nat) (w : World) (h1 : EffsAt w w.heap.size A1 l) (h2 : EffsAt w w.heap.size A2 l) :
    Calls Try.prog 36 #[.slice A1 l.length c1, .slice A2 l.length c2] w fun e w' => e = .returned (.bool true) ∧ Below w.heap.size w w' := by
  have l1 := h1.len
  go_enter Try.func36, Try.ntmps36
  go_wp2
  go_loopw [13] (fun i wr => ∃ k : Nat, k ≤ l.length ∧ i = .int .i64 k ∧ Below w.heap.size w wr) (fun i _ => l.length - (intOf i).toNat)
  case atStart => exact ⟨0, by omega, rfl, Below.refl _ _⟩
  case round =>
    obtain ⟨k, hk, rfl, hbel⟩ := hrel
    obtain ⟨wt, rfl⟩ : ∃ wt : World, wt = wr := ⟨_, rfl⟩
    have hbz := hbel.size
    by_cases hlt : k < l.length
    · obtain ⟨b1, o1, S, c, e1, hb1, i0, f5, i1, i2⟩ := h1.at2 hbel hlt
      obtain ⟨b2, o2, S', c', e2, hb2, j0, f6, j1, j2⟩ := h2.at2 hbel hlt
      subst e1 e2
      have g1 : (k : Int) < l.length := by omega
      have g0 : (0 : Int) ≤ (k : Int) := by omega
      have g3 : b1 < wt.heap.size := by omega
      have g4 : b2 < wt.heap.size := by omega
      have q1 := f5.len
      have k1 : ∀ w1, Below wt.heap.size wt w1 → Calls Try.prog 35 #[.slice S (eff l k).whn.length c, .slice S' (eff l k).whn.length c'] w1 fun e w' => e = .returned (.bool true) ∧ Below w1.heap.size w1 w' := fun w1 hb => bfacts_same (eff l k).whn S S' c c' w1 (f5.keep (fun _ hp => (hbel.trans (hb.mono hbz)).cell hp) (Nat.le_trans hbz hb.size)) (f6.keep (fun _ hp => (hbel.trans (hb.mono hbz)).cell hp) (Nat.le_trans hbz hb.size))
      have K1 := Lib.hid k1
      clear k1
      go_wp2_with fail
      refine wp_region_aft (by kernel_rfl) (by kernel_rfl) (by (try simp); exact rfl) ?_; intro haft; (repeat (go_big_quiet_step ((go_at_call 35; exact aft_of (K1.out _ (Aft.below _)))))); refine wpQuiet_nil ?_; intro w1 hwx; have hb1 := aft_below hwx; clear hwx; obtain ⟨hc1, hf1, hz1, hlt1, hle1⟩ := cellsIf hb1 (by (try simp); exact rfl); (try have : w.heap.size < w1.heap.size := (by omega)); (try have : w.heap.size < w1.heap.size + 1 := (by omega)); (try have : w.heap.size < w1.heap.size + 1 + 1 := (by omega)); (try have : w.heap.size + 1 < w1.heap.size := (by omega)); (try have : w.heap.size + 1 < w1.heap.size + 1 := (by omega)); (try have : w.heap.size + 1 < w1.heap.size + 1 + 1 := (by omega)); (try have : w.heap.size + 1 + 1 < w1.heap.size := (by omega)); (try have : w.heap.size + 1 + 1 < w1.heap.size + 1 := (by omega)); (try have : w.heap.size + 1 + 1 < w1.heap.size + 1 + 1 := (by omega)); clear haft
      go_wp2
      go_roundw
      case rel => exact ⟨k + 1, by omega, by go_num, hbel.trans (hb1.mono hbz)⟩
      case measure => simp [intOf]; omega
    · go_wp2
      go_ret
      exact ⟨rfl, hbel⟩

end Go.Proofs.Ytdkighaddldmcaa
