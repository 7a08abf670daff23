/- Count, Same (the program's and the reference's), walked. -/
import Derived.Test.YtebgaicapjpohaaDoorSgA
import Derived.Test.YtebgaicapjpohaaDoorSfE
namespace Go.Proofs.YtebgaicapjpohaaDoor
set_option linter.unusedSimpArgs false
set_option linter.unusedVariables false
open Go Go.RowKit
set_option linter.unusedVariables false

/-- An element of a row of expressions, whole. -/
theorem row_kid {w : World} {A : Option Addr} {l : List Sx} {i : Nat} (h : RowAt w (fun _ => False) A 0 l) (hi : i < l.length) :
    ∃ b off k v ln c t ks A2 cap, sx l i = .mk k v ln c t ks ∧ A = some ⟨b, off, none⟩ ∧ b < w.heap.size ∧ SxIs w (fun _ => False) [.int .i64 k, .int .i64 v, .int .i64 ln, .int .i64 c, .string (bs t), .slice A2 ks.length cap] (.mk k v ln c t ks) ∧ w.cell? ⟨b, off + i * 6, none⟩ = some (.int .i64 k) ∧ w.cell? ⟨b, off + i * 6 + 1, none⟩ = some (.int .i64 v) ∧ w.cell? ⟨b, off + i * 6 + 2, none⟩ = some (.int .i64 ln) ∧ w.cell? ⟨b, off + i * 6 + 3, none⟩ = some (.int .i64 c) ∧ w.cell? ⟨b, off + i * 6 + 4, none⟩ = some (.string (bs t)) ∧ w.cell? ⟨b, off + i * 6 + 5, none⟩ = some (.slice A2 ks.length cap) := by
  obtain ⟨k, v, ln, c, t, ks, he⟩ : ∃ k v ln c t ks, sx l i = .mk k v ln c t ks := by
    cases sx l i with
    | mk k v ln c t ks => exact ⟨k, v, ln, c, t, ks, rfl⟩
  obtain ⟨b, off, A2, cap, h1, h2, _, h3, h4, h5, q⟩ := row_cells h hi he
  exact ⟨b, off, k, v, ln, c, t, ks, A2, cap, he, h1, h2, by unfold SxIs; exact ⟨A2, cap, rfl, h3, h4, h5⟩, q⟩
set_option maxRecDepth 20000 in
set_option maxHeartbeats 4000000 in
theorem count_all : ∀ (N : Nat) (x : Sx), sxN x < N → ∀ (vs : List Value) (w : World), SxIs w (fun _ => False) vs x → sxB x →
    Calls Tryd.prog 16 #[.agg vs.toArray] w fun e w' => (∃ m : Int, e = .returned (.int .i64 m)) ∧ Below w.heap.size w w'
  | 0, _, h => absurd h (by omega)
  | N + 1, .mk k v l c t kids, hN => by
    intro vs w hx hB
    have IH := Lib.hid (count_all N)
    unfold SxIs at hx
    obtain ⟨A, cap, rfl, hA, hcap, hrow⟩ := hx
    unfold sxB at hB
    obtain ⟨hlen, hBL⟩ := hB
    have HR := Lib.hid hrow
    have HBL := Lib.hid hBL
    have HSZ := Lib.hid (sx_size2 hN)
    clear hrow hBL hN hA
    go_enter Tryd.func16, Tryd.ntmps16
    go_wp2_with fail
    obtain ⟨wa, hwa⟩ : ∃ wa : World, w.alloc (Obj.cells #[.int .i64 k, .int .i64 v, .int .i64 l, .int .i64 c, .string (bs t), .slice A kids.length cap] 34) = wa := ⟨_, rfl⟩
    have HA := Lib.hid (show Below w.heap.size w wa by rw [← hwa]; repeat (first | exact Below.refl _ _ | refine below_dN ?_ _ | refine Below.drew ?_ | refine Below.alloc ?_ (by first | omega | (simp; done) | (simp; omega)) _ | refine Below.setCell ?_ (by first | omega | (simp; done) | (simp; omega)) _ | refine below_step (by assumption) (by first | omega | (simp; done) | (simp; omega)) ?_))
    have HX := Lib.hid (show BxI wa w.heap.size 34 #[.int .i64 k, .int .i64 v, .int .i64 l, .int .i64 c, .string (bs t), .slice A kids.length cap] by rw [← hwa]; exact BxI.new _ _ _)
    rw [hwa]
    clear hwa
    go_loopw [3, 4] (fun v3 v4 wr => ∃ (m : Int) (j : Nat), v3 = .int .i64 m ∧ v4 = .int .i64 j ∧ j ≤ kids.length ∧ Hid (Below wa.heap.size wa wr)) (fun _ v _ => kids.length - (RowKit.intOf v).toNat)
    case atStart => exact ⟨1, 0, rfl, rfl, Nat.zero_le _, Lib.hid (Below.refl _ _)⟩
    case round =>
      obtain ⟨m, j, rfl, rfl, hj, HB⟩ := hrel
      have HXR := Lib.hid (HX.out.up HB.out)
      have HBW := Lib.hid (HA.out.trans (HB.out.mono HA.out.size))
      have e5 := HXR.out.cell 5 _ rfl
      by_cases hlt : j < kids.length
      · have hd1 : decide ((j : Int) < (kids.length : Int)) = true := decide_eq_true (by omega)
        obtain ⟨b, off, kk, vv, ll, cc, tt, ks, A2, cap2, hxe, rfl, hbl, hsx, d0, d1, d2, d3, d4, d5⟩ := row_kid (RowAt.move (Moves.up HBW.out) _ _ _ HR.out) hlt
        have KC := Lib.hid (IH.out _ (by rw [← hxe]; exact HSZ.out j hlt) _ wr hsx (by rw [← hxe]; exact sxBL_get _ _ HBL.out hlt))
        clear hsx hxe
        go_wp2_with fail
        refine KC.out.mono ?_
        rintro e w3 ⟨⟨m3, rfl⟩, hb3⟩
        have HB3 := Lib.hid (HB.out.trans (hb3.mono HB.out.size))
        clear hb3 d0 d1 d2 d3 d4 d5 e5
        go_wp2
        go_roundw
        case rel => exact ⟨_, j + 1, rfl, rfl, by omega, HB3⟩
        case measure => simp [RowKit.intOf]; omega
      · obtain rfl : j = kids.length := by omega
        go_wp2
        refine bodyPost_ret (v := .int .i64 m) (by simp [results, Tryd.results16, go_sem, ↓IntWalk.iteOmega, *]) rfl ⟨⟨_, rfl⟩, HBW.out⟩
end Go.Proofs.YtebgaicapjpohaaDoor
