/- law36.awake; the law LandmarkFacts. -/
import Derived.Test.YthhfckjddknmeaaLmU
namespace Go.Proofs.Ythhfckjddknmeaa
set_option linter.unusedSimpArgs false
set_option linter.unusedVariables false
open Go Go.RowKit
set_option linter.unusedVariables false

set_option maxRecDepth 100000 in
set_option maxHeartbeats 4000000 in
theorem awake36_any (w : World) : Calls Try.prog 8 #[] w fun e w' => e = .returned (.bool true) ∧ Below w.heap.size w w' := by
  have K1 := Lib.hid (fun P wx (h : TaskAt wx wx.heap.size T36 P) => new_any T36 P wx h chk36)
  have K2 := Lib.hid (fun q G AS cs wx (hF : FindAt wx G T36 q) (hs : IntsAt wx wx.heap.size AS [0, 0]) => lfacts_any T36 q G [0, 0] AS cs wx hF hs (right_of chk36))
  have K3 := Lib.hid (fun A B c d wx (h1 : FactsAt wx wx.heap.size A [(0, 1), (1, 1), (1, 2)]) (h2 : FactsAt wx wx.heap.size B [(0, 1), (1, 1), (1, 2)]) => bfacts_same [(0, 1), (1, 1), (1, 2)] A B c d wx h1 h2)
  go_enter Try.func8, Try.ntmps8
  go_wp2_with fail
  refine (example36_any _).mono ?_
  rintro e w1 ⟨⟨P, rfl, ht1⟩, hb1⟩
  go_wp2_with fail
  refine (K1.out P _ ht1).mono ?_
  rintro e w2 ⟨⟨G, q, rfl, hF⟩, hb2⟩
  go_wp2_with fail
  refine (K2.out q G (some ⟨w2.heap.size, 0, none⟩) 2 _ (hF.up ((Below.refl _ _).alloc (Nat.le_refl _) _)) (two_ints (by simp) (by simp) (by simp))).mono ?_
  rintro e w3 ⟨⟨v, rfl, hv⟩, hb3⟩
  rw [lm36.2, erV_0]
  rw [lm36.1] at hv
  obtain ⟨A, c, rfl, _, hf⟩ := hv
  have z1 := hb1.size
  have z2 := hb2.size
  have z3 := hb3.size
  simp only [World.size_alloc] at z3
  have hbw : Below w.heap.size w w3 := ((hb1.trans (hb2.mono z1)).trans (((Below.refl _ _).alloc (Nat.le_refl _) _).mono (Nat.le_trans z1 z2))).trans (hb3.mono (by simp; omega))
  go_wp2_with fail
  refine (K3.out A (some ⟨w3.heap.size, 0, none⟩) c 3 _ (hf.up ((Below.refl _ _).alloc (Nat.le_refl _) _)) ⟨by simp, fun _ => ⟨w3.heap.size, 0, rfl, by simp, fun k hk => ?_⟩⟩).mono ?_
  · have : k = 0 ∨ k = 1 ∨ k = 2 := by simp at hk; omega
    rcases this with rfl | rfl | rfl <;> exact ⟨by simp [fv], by simp [fx]⟩
  rintro e w4 ⟨rfl, hb4⟩
  go_wp2
  go_ret
  exact ⟨rfl, hbw.trans (((Below.refl w3.heap.size w3).alloc (Nat.le_refl _) _).mono hbw.size |>.trans (hb4.mono (by have := hbw.size; simp; omega)))⟩

end Go.Proofs.Ythhfckjddknmeaa
