/- pack: Hash; slices.Equal of words, walked. -/
import Derived.Test.YtpobnjbpglaohaaGreatWpH
namespace Go.Proofs.YtpobnjbpglaohaaGreat
set_option linter.unusedSimpArgs false
set_option linter.unusedVariables false
open Go Go.RowKit
set_option linter.unusedVariables false

/-- What Hash computes. -/
def hsStep (h x : Int) : Int := bits BinOp.xor IntKind.u64 (IntKind.u64.wrap (bits BinOp.xor IntKind.u64 h x * 13787848793156543929)) (IntKind.u64.wrap (bits BinOp.xor IntKind.u64 h x * 13787848793156543929) / 536870912)
def hsI (W : List Nat) : Nat → Int
  | 0 => (W.length : Nat) + 11400714819323198485
  | k + 1 => hsStep (hsI W k) (wd W k : Nat)
def hashW (W : List Nat) : Int := wrap64 (hsI W W.length / 4)

set_option maxHeartbeats 2000000 in
theorem hash_any (W : List Nat) (p : Nat) (A : Option Addr) (c : Nat) (w : World) (hs : RowX w w.heap.size A W.length (u64C W)) (hn : W.length ≤ 100) :
    Calls Tryz.prog 59 #[.pointer (some ⟨p, 0, none⟩), .slice A W.length c] w fun e w' => e = .returned (.int .i64 (hashW W)) ∧ Below w.heap.size w w' := by
  have HS := Lib.hid hs
  clear hs
  go_enter Tryz.func59, Tryz.ntmps59
  go_wp2_with fail
  go_loopw [5, 16] (fun v5 v16 wr => ∃ k : Nat, v16 = .int .i64 k ∧ k ≤ W.length ∧ v5 = .int .u64 (hsI W k) ∧ wr = w) (fun _ v _ => W.length - (RowKit.intOf v).toNat)
  case atStart => exact ⟨0, rfl, Nat.zero_le _, by simp only [hsI], rfl⟩
  case round =>
    obtain ⟨k, rfl, hk, rfl, rfl⟩ := hrel
    obtain ⟨hv, hhv⟩ : ∃ v, v = hsI W k := ⟨_, rfl⟩
    have HHV := Lib.hid hhv
    rw [← hhv]
    clear hhv
    by_cases hlt : k < W.length
    · obtain ⟨b, off, rfl, hb, hc⟩ := HS.out (by omega)
      have d0 := hc k _ (u64C_at hlt)
      clear hc
      obtain ⟨x, hx⟩ : ∃ x, x = wd W k := ⟨_, rfl⟩
      have HX := Lib.hid hx
      rw [← hx] at d0
      clear hx
      go_wp2
      go_roundw
      case rel => exact ⟨k + 1, rfl, by omega, by simp only [hsI, hsStep]; rw [← HX.out, ← HHV.out], by first | rfl | trivial⟩
      case measure => simp [RowKit.intOf]; omega
    · obtain rfl : k = W.length := by omega
      go_wp2
      refine bodyPost_ret (v := .int .i64 (wrap64 (hv / 4))) (by simp [results, Tryz.results59, go_sem, ↓IntWalk.iteOmega, *]) rfl ⟨by unfold hashW; rw [← HHV.out], by repeat (first | exact Below.refl _ _ | refine below_dN ?_ _ | refine Below.drew ?_ | refine Below.alloc ?_ (by first | omega | (simp; done) | (simp; omega)) _ | refine Below.setCell ?_ (by first | omega | (simp; done) | (simp; omega)) _ | refine below_step (by assumption) (by first | omega | (simp; done) | (simp; omega)) ?_)⟩
theorem wd_ext {W V : List Nat} (h : W.length = V.length) (hw : ∀ k, k < W.length → wd W k = wd V k) : W = V := by
  apply List.ext_getElem h
  intro i h1 h2
  have := hw i h1
  unfold wd at this
  simpa [List.getD, h1, h2] using this

set_option maxHeartbeats 2000000 in
theorem equalU_any (W V : List Nat) (A B : Option Addr) (c d : Nat) (w : World) (hA : RowX w w.heap.size A W.length (u64C W)) (hB : RowX w w.heap.size B V.length (u64C V)) (hn : W.length = V.length) (hn1 : W.length ≤ 100) :
    Calls Tryz.prog 60 #[.slice A W.length c, .slice B V.length d] w fun e w' => e = .returned (.bool (decide (W = V))) ∧ Below w.heap.size w w' := by
  have HA := Lib.hid hA
  have HB := Lib.hid hB
  have HN := Lib.hid hn
  rw [← hn]
  clear hA hB hn
  go_enter Tryz.func60, Tryz.ntmps60
  go_wp2_with fail
  go_loopw [13] (fun v13 wr => ∃ k : Nat, v13 = .int .i64 k ∧ k ≤ W.length ∧ Hid (∀ i, i < k → wd W i = wd V i) ∧ Hid (Below w.heap.size w wr)) (fun v _ => W.length - (RowKit.intOf v).toNat)
  case atStart => exact ⟨0, rfl, Nat.zero_le _, Lib.hid (fun i h => absurd h (Nat.not_lt_zero _)), Lib.hid (by repeat (first | exact Below.refl _ _ | refine below_dN ?_ _ | refine Below.drew ?_ | refine Below.alloc ?_ (by first | omega | (simp; done) | (simp; omega)) _ | refine Below.setCell ?_ (by first | omega | (simp; done) | (simp; omega)) _ | refine below_step (by assumption) (by first | omega | (simp; done) | (simp; omega)) ?_))⟩
  case round =>
    obtain ⟨k, rfl, hk, HK, HE⟩ := hrel
    by_cases hlt : k < W.length
    · obtain ⟨b, off, rfl, hb, hc⟩ := HA.out (by omega)
      obtain ⟨b2, off2, rfl, hb2, hc2⟩ := HB.out (by rw [← HN.out]; omega)
      have d0 := (HE.out.cell (p := ⟨b, _, none⟩) hb).trans (hc k _ (u64C_at hlt))
      have d1 := (HE.out.cell (p := ⟨b2, _, none⟩) hb2).trans (hc2 k _ (u64C_at (by rw [← HN.out]; exact hlt)))
      clear hc hc2
      obtain ⟨x, hx⟩ : ∃ x, x = wd W k := ⟨_, rfl⟩
      have HX := Lib.hid hx
      obtain ⟨y, hy⟩ : ∃ y, y = wd V k := ⟨_, rfl⟩
      have HY := Lib.hid hy
      rw [← hx] at d0
      rw [← hy] at d1
      clear hx hy
      go_wp2_with fail
      go_quiet (fail)
      by_cases hxy : x = y
      · go_wp2
        go_roundw
        case rel => exact ⟨k + 1, rfl, by omega, Lib.hid (fun i hi => by
          by_cases e : i = k
          · subst e; rw [← HX.out, ← HY.out]; exact hxy
          · exact HK.out i (by omega)), Lib.hid (HE.out.trans (Below.mono (by repeat (first | exact Below.refl _ _ | refine below_dN ?_ _ | refine Below.drew ?_ | refine Below.alloc ?_ (by first | omega | (simp; done) | (simp; omega)) _ | refine Below.setCell ?_ (by first | omega | (simp; done) | (simp; omega)) _ | refine below_step (by assumption) (by first | omega | (simp; done) | (simp; omega)) ?_)) HE.out.size))⟩
        case measure => simp [RowKit.intOf]; omega
      · go_wp2
        refine bodyPost_ret (v := .bool false) (by simp [results, Tryz.results60, go_sem, ↓IntWalk.iteOmega, *]) rfl ⟨?_, HE.out.trans (Below.mono (by repeat (first | exact Below.refl _ _ | refine below_dN ?_ _ | refine Below.drew ?_ | refine Below.alloc ?_ (by first | omega | (simp; done) | (simp; omega)) _ | refine Below.setCell ?_ (by first | omega | (simp; done) | (simp; omega)) _ | refine below_step (by assumption) (by first | omega | (simp; done) | (simp; omega)) ?_)) HE.out.size)⟩
        rw [decide_eq_false (fun e => hxy (by rw [HX.out, HY.out, e]))]
    · obtain rfl : k = W.length := by omega
      go_wp2
      refine bodyPost_ret (v := .bool true) (by simp [results, Tryz.results60, go_sem, ↓IntWalk.iteOmega, *]) rfl ⟨?_, HE.out⟩
      rw [decide_eq_true (wd_ext HN.out HK.out)]
end Go.Proofs.YtpobnjbpglaohaaGreat
