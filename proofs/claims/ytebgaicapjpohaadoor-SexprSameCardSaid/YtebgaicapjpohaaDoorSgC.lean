/- Same (the program's and the reference's), walked (printed by gen_same.py). -/
import Derived.Test.YtebgaicapjpohaaDoorRegA
import Derived.Test.YtebgaicapjpohaaDoorSgB
namespace Go.Proofs.YtebgaicapjpohaaDoor
set_option linter.unusedSimpArgs false
set_option linter.unusedVariables false
open Go Go.RowKit
set_option linter.unusedVariables false

set_option maxRecDepth 20000 in
set_option maxHeartbeats 8000000 in
theorem same_all : ∀ (N : Nat) (x : Sx), sxN x < N → ∀ (y : Sx) (vs us : List Value) (w : World), SxIs w (fun _ => False) vs x → SxIs w (fun _ => False) us y → sxB x →
    Calls Tryd.prog 11 #[.agg vs.toArray, .agg us.toArray] w fun e w' => e = .returned (.bool (sameX x y)) ∧ Below w.heap.size w w'
  | 0, _, h => absurd h (by omega)
  | N + 1, .mk k v l c t ka, hN => by
    intro y vs us w hx hy hB
    obtain ⟨k', v', l', c', t', kb⟩ := y
    have IH := Lib.hid (same_all N)
    unfold SxIs at hx hy
    obtain ⟨A, ca, rfl, hA, hcap, hrow⟩ := hx
    obtain ⟨A', cb, rfl, hA', hcap', hrow'⟩ := hy
    unfold sxB at hB
    obtain ⟨hlen, hBL⟩ := hB
    have HR := Lib.hid hrow
    have HR' := Lib.hid hrow'
    have HBL := Lib.hid hBL
    have HSZ := Lib.hid (sx_size2 hN)
    obtain ⟨R, hR⟩ : ∃ R, sameX (.mk k v l c t ka) (.mk k' v' l' c' t' kb) = R := ⟨_, rfl⟩
    rw [hR]
    unfold sameX at hR
    clear hrow hrow' hBL hN hA hA'
    by_cases hk : k = k'
    · subst hk
      by_cases hv : v = v'
      · subst hv
        by_cases ht : t = t'
        · subst ht
          by_cases hl : ka.length = kb.length
          · have HE0 := Lib.hid (show R = sameL ka kb by rw [← hR, decide_eq_true rfl, decide_eq_true rfl, decide_eq_true rfl, decide_eq_true hl]; simp)
            have hl2 : ((ka.length : Nat) : Int) = ((kb.length : Nat) : Int) := by omega
            have hlb : kb.length ≤ 140737488351232 := by omega
            clear hR
            have HL := Lib.hid hl
            clear hl
            have HL2 := Lib.hid hl2
            clear hl2
            go_enter Tryd.func11, Tryd.ntmps11
            have hne : ((ka.length : Int) != (kb.length : Int)) = false := by rw [HL2.out]; simp
            have hne2 : ¬ ((ka.length : Int) ≠ (kb.length : Int)) := fun h => h HL2.out
            go_wp2_with fail
            have HE := HE0
            obtain ⟨wa, hwa⟩ : ∃ wa : World, (w.alloc (Obj.cells #[.int .i64 k, .int .i64 v, .int .i64 l, .int .i64 c, .string (bs t), .slice A ka.length ca] 34)).alloc (Obj.cells #[.int .i64 k, .int .i64 v, .int .i64 l', .int .i64 c', .string (bs t), .slice A' kb.length cb] 34) = wa := ⟨_, rfl⟩
            have hba : Below w.heap.size w wa := by rw [← hwa]; repeat (first | exact Below.refl _ _ | refine below_dN ?_ _ | refine Below.drew ?_ | refine Below.alloc ?_ (by first | omega | (simp; done) | (simp; omega)) _ | refine Below.setCell ?_ (by first | omega | (simp; done) | (simp; omega)) _ | refine below_step (by assumption) (by first | omega | (simp; done) | (simp; omega)) ?_)
            have HA := Lib.hid hba
            have HY := Lib.hid (show BxI wa (w.heap.size + 1) 34 #[.int .i64 k, .int .i64 v, .int .i64 l', .int .i64 c', .string (bs t), .slice A' kb.length cb] by rw [← hwa]; exact box2 _ _ _ _)
            have HX := Lib.hid (show BxI wa w.heap.size 34 #[.int .i64 k, .int .i64 v, .int .i64 l, .int .i64 c, .string (bs t), .slice A ka.length ca] by rw [← hwa]; exact (BxI.new _ _ _).up ((Below.refl _ _).alloc (Nat.le_refl _) _))
            obtain ⟨X, hX⟩ : ∃ X, w.heap.size = X := ⟨_, rfl⟩
            obtain ⟨Y, hY⟩ : ∃ Y, X + 1 = Y := ⟨_, rfl⟩
            rw [hX] at HX HY
            rw [hY] at HY
            rw [hwa]
            rw [hX]
            rw [hY]
            clear hwa hba
            have HXX := Lib.hid hX
            clear hX
            go_loopw [37] (fun v wr => ∃ (j : Nat), v = .int .i64 j ∧ j ≤ ka.length ∧ Hid (∀ i, i < j → sameX (sx ka i) (sx kb i) = true) ∧ Hid (Below wa.heap.size wa wr)) (fun v _ => ka.length - (RowKit.intOf v).toNat)
            case atStart => exact ⟨0, rfl, Nat.zero_le _, Lib.hid (fun i h => by omega), Lib.hid (Below.refl _ _)⟩
            case round =>
              obtain ⟨j, rfl, hj, HS0, HB⟩ := hrel
              have HBW := Lib.hid (HA.out.trans (HB.out.mono HA.out.size))
              have e1 := (HX.out.up HB.out).cell 5 _ rfl
              have e2 := (HY.out.up HB.out).cell 5 _ rfl
              have g1 := (HX.out.up HB.out).lt
              have g2 := (HY.out.up HB.out).lt
              by_cases hlt : j < ka.length
              · have hd1 : decide ((j : Int) < (ka.length : Int)) = true := decide_eq_true (by omega)
                have hd2 : decide ((j : Int) < (kb.length : Int)) = true := decide_eq_true (by have := HL.out; omega)
                have hlt2 : j < kb.length := by have := HL.out; omega
                go_wp2_with fail
                obtain ⟨b, off, k1, v1, l1, c1, t1, ks1, A1, cap1, hxe1, rfl, hb1, hsx1, d0, d1, d2, d3, d4, d5⟩ := row_kid (RowAt.move (Moves.up HBW.out) _ _ _ HR.out) hlt
                obtain ⟨b2, off2, k2, v2, l2, c2, t2, ks2, A2, cap2, hxe2, rfl, hb2, hsx2, q0, q1, q2, q3, q4, q5⟩ := row_kid (RowAt.move (Moves.up HBW.out) _ _ _ HR'.out) hlt2
                obtain ⟨r, hr⟩ : ∃ r, sameX (.mk k1 v1 l1 c1 t1 ks1) (.mk k2 v2 l2 c2 t2 ks2) = r := ⟨_, rfl⟩
                have KC0 := Lib.hid (fun W (hb : Below wr.heap.size wr W) => IH.out _ (by rw [← hxe1]; exact HSZ.out j hlt) _ _ _ W (SxIs.move (Moves.up hb) _ _ hsx1) (SxIs.move (Moves.up hb) _ _ hsx2) (by rw [← hxe1]; exact sxBL_get _ _ HBL.out hlt))
                rw [hr] at KC0
                have KC := Lib.hid KC0.out
                have HRR := Lib.hid (show sameX (sx ka j) (sx kb j) = r by rw [hxe1, hxe2, hr])
                have HS1 := Lib.hid (show ∀ w' : World, Below wr.heap.size wr w' → w'.cell? ⟨X, 5, none⟩ = some (.slice (some ⟨b, off, none⟩) ka.length ca) ∧ w'.cell? ⟨Y, 5, none⟩ = some (.slice (some ⟨b2, off2, none⟩) kb.length cb) ∧ w'.cell? ⟨b, off + j * 6, none⟩ = some (.int .i64 k1) ∧ w'.cell? ⟨b, off + j * 6 + 1, none⟩ = some (.int .i64 v1) ∧ w'.cell? ⟨b, off + j * 6 + 2, none⟩ = some (.int .i64 l1) ∧ w'.cell? ⟨b, off + j * 6 + 3, none⟩ = some (.int .i64 c1) ∧ w'.cell? ⟨b, off + j * 6 + 4, none⟩ = some (.string (bs t1)) ∧ w'.cell? ⟨b, off + j * 6 + 5, none⟩ = some (.slice A1 ks1.length cap1) ∧ w'.cell? ⟨b2, off2 + j * 6, none⟩ = some (.int .i64 k2) ∧ w'.cell? ⟨b2, off2 + j * 6 + 1, none⟩ = some (.int .i64 v2) ∧ w'.cell? ⟨b2, off2 + j * 6 + 2, none⟩ = some (.int .i64 l2) ∧ w'.cell? ⟨b2, off2 + j * 6 + 3, none⟩ = some (.int .i64 c2) ∧ w'.cell? ⟨b2, off2 + j * 6 + 4, none⟩ = some (.string (bs t2)) ∧ w'.cell? ⟨b2, off2 + j * 6 + 5, none⟩ = some (.slice A2 ks2.length cap2) from fun w' hb =>
                  ⟨(hb.cell (p := ⟨X, 5, none⟩) g1).trans e1, (hb.cell (p := ⟨Y, 5, none⟩) g2).trans e2, (hb.cell (p := ⟨b, _, none⟩) hb1).trans d0, (hb.cell (p := ⟨b, _, none⟩) hb1).trans d1, (hb.cell (p := ⟨b, _, none⟩) hb1).trans d2, (hb.cell (p := ⟨b, _, none⟩) hb1).trans d3, (hb.cell (p := ⟨b, _, none⟩) hb1).trans d4, (hb.cell (p := ⟨b, _, none⟩) hb1).trans d5,
                    (hb.cell (p := ⟨b2, _, none⟩) hb2).trans q0, (hb.cell (p := ⟨b2, _, none⟩) hb2).trans q1, (hb.cell (p := ⟨b2, _, none⟩) hb2).trans q2, (hb.cell (p := ⟨b2, _, none⟩) hb2).trans q3, (hb.cell (p := ⟨b2, _, none⟩) hb2).trans q4, (hb.cell (p := ⟨b2, _, none⟩) hb2).trans q5⟩)
                clear KC0 hr hsx1 hsx2 hxe1 hxe2 e1 e2 d0 d1 d2 d3 d4 d5 q0 q1 q2 q3 q4 q5
                refine wp_region_G 10 (fun w' => w'.cell? ⟨X, 5, none⟩ = some (.slice (some ⟨b, off, none⟩) ka.length ca) ∧ w'.cell? ⟨Y, 5, none⟩ = some (.slice (some ⟨b2, off2, none⟩) kb.length cb) ∧ w'.cell? ⟨b, off + j * 6, none⟩ = some (.int .i64 k1) ∧ w'.cell? ⟨b, off + j * 6 + 1, none⟩ = some (.int .i64 v1) ∧ w'.cell? ⟨b, off + j * 6 + 2, none⟩ = some (.int .i64 l1) ∧ w'.cell? ⟨b, off + j * 6 + 3, none⟩ = some (.int .i64 c1) ∧ w'.cell? ⟨b, off + j * 6 + 4, none⟩ = some (.string (bs t1)) ∧ w'.cell? ⟨b, off + j * 6 + 5, none⟩ = some (.slice A1 ks1.length cap1) ∧ w'.cell? ⟨b2, off2 + j * 6, none⟩ = some (.int .i64 k2) ∧ w'.cell? ⟨b2, off2 + j * 6 + 1, none⟩ = some (.int .i64 v2) ∧ w'.cell? ⟨b2, off2 + j * 6 + 2, none⟩ = some (.int .i64 l2) ∧ w'.cell? ⟨b2, off2 + j * 6 + 3, none⟩ = some (.int .i64 c2) ∧ w'.cell? ⟨b2, off2 + j * 6 + 4, none⟩ = some (.string (bs t2)) ∧ w'.cell? ⟨b2, off2 + j * 6 + 5, none⟩ = some (.slice A2 ks2.length cap2)) (by kernel_rfl) (HS1.out _ (by repeat (first | exact Below.refl _ _ | refine below_dN ?_ _ | refine Below.drew ?_ | refine Below.alloc ?_ (by first | omega | (simp; done) | (simp; omega)) _ | refine Below.setCell ?_ (by first | omega | (simp; done) | (simp; omega)) _ | refine below_step (by assumption) (by first | omega | (simp; done) | (simp; omega)) ?_))) ?_
                intro hG0
                refine wpS1 0 hG0 ?_; intro hG1; clear hG0
                refine wpS2 1 hG1 ?_; intro hG2; clear hG1
                refine wpS1 2 hG2 ?_; intro hG3; clear hG2
                refine wpS1 3 hG3 ?_; intro hG4; clear hG3
                refine wpS2 4 hG4 ?_; intro hG5; clear hG4
                refine wpS1 5 hG5 ?_; intro hG6; clear hG5
                refine wpS2 6 hG6 ?_; intro hG7; clear hG6
                refine wpS1 7 hG7 ?_; intro hG8; clear hG7
                refine wpS1 8 hG8 ?_; intro hG9; clear hG8
                refine wpS2 9 hG9 ?_; intro hG10; clear hG9
                refine wpAnyG_ready (rs := [10]) (by kernel_rfl) (by simp) (AllG.cons rfl hG10 (fun K hK => ?_) AllG.nil)
                (go_simp; go_at_call 11; refine (KC.out _ (by repeat (first | exact Below.refl _ _ | refine below_dN ?_ _ | refine Below.drew ?_ | refine Below.alloc ?_ (by first | omega | (simp; done) | (simp; omega)) _ | refine Below.setCell ?_ (by first | omega | (simp; done) | (simp; omega)) _ | refine below_step (by assumption) (by first | omega | (simp; done) | (simp; omega)) ?_))).mono ?_; rintro e w3 ⟨rfl, hb3⟩; have HB3 := Lib.hid (HB.out.trans (((show Below wr.heap.size wr wr.drew by repeat (first | exact Below.refl _ _ | refine below_dN ?_ _ | refine Below.drew ?_ | refine Below.alloc ?_ (by first | omega | (simp; done) | (simp; omega)) _ | refine Below.setCell ?_ (by first | omega | (simp; done) | (simp; omega)) _ | refine below_step (by assumption) (by first | omega | (simp; done) | (simp; omega)) ?_)).trans (hb3.mono (by simp))).mono HB.out.size)); clear hb3)
                refine hK.out _ _ (Or.inl rfl) (fun hG11 => wpN ?_); clear hK hG10
                refine wpS1 11 hG11 ?_; intro hG12; clear hG11
                refine wpAnyG_done (by kernel_rfl) ?_ _; clear hG12
                cases r with
                | true =>
                  have HS2 := Lib.hid (show ∀ i, i < j + 1 → sameX (sx ka i) (sx kb i) = true from fun i hi => by
                    by_cases e : i = j
                    · subst e; exact HRR.out
                    · exact HS0.out i (by omega))
                  go_wp2
                  go_roundw
                  case rel => exact ⟨j + 1, rfl, by omega, HS2, HB3⟩
                  case measure => simp [RowKit.intOf]; omega
                | false =>
                  have HE2 := Lib.hid (show R = false by rw [HE.out]; exact sameL_stop ka kb j HL.out hlt HRR.out)
                  go_wp2
                  refine bodyPost_ret (v := .bool false) (by simp [results, Tryd.results11, go_sem, ↓IntWalk.iteOmega, *]) rfl ⟨by rw [HE2.out], HA.out.trans (HB3.out.mono HA.out.size)⟩
              · obtain rfl : j = ka.length := by omega
                have hd1 : decide ((ka.length : Int) < (ka.length : Int)) = false := by simp
                have HE2 := Lib.hid (show R = true by rw [HE.out]; exact sameL_all ka kb HL.out HS0.out)
                go_wp2
                refine bodyPost_ret (v := .bool true) (by simp [results, Tryd.results11, go_sem, ↓IntWalk.iteOmega, *]) rfl ⟨by rw [HE2.out], HBW.out⟩
          · have HE := Lib.hid (show R = false by rw [← hR, decide_eq_false hl, Bool.and_false, Bool.false_and])
            have hl2 : ¬ ((ka.length : Nat) : Int) = ((kb.length : Nat) : Int) := by omega
            clear hR
            go_enter Tryd.func11, Tryd.ntmps11
            go_wp2
            refine bodyPost_ret (v := .bool false) (by simp [results, Tryd.results11, go_sem, ↓IntWalk.iteOmega, *]) rfl ⟨by rw [HE.out], by repeat (first | exact Below.refl _ _ | refine below_dN ?_ _ | refine Below.drew ?_ | refine Below.alloc ?_ (by first | omega | (simp; done) | (simp; omega)) _ | refine Below.setCell ?_ (by first | omega | (simp; done) | (simp; omega)) _ | refine below_step (by assumption) (by first | omega | (simp; done) | (simp; omega)) ?_)⟩
        · have HE := Lib.hid (show R = false by rw [← hR, decide_eq_false ht, Bool.and_false, Bool.false_and, Bool.false_and])
          have hts : ((bs t).toList == (bs t').toList) = false := by
            rw [Lib.toList_data, Lib.toList_data, bs_data, bs_data]; exact beq_eq_false_iff_ne.2 ht
          clear hR
          go_enter Tryd.func11, Tryd.ntmps11
          go_wp2
          refine bodyPost_ret (v := .bool false) (by simp [results, Tryd.results11, go_sem, ↓IntWalk.iteOmega, *]) rfl ⟨by rw [HE.out], by repeat (first | exact Below.refl _ _ | refine below_dN ?_ _ | refine Below.drew ?_ | refine Below.alloc ?_ (by first | omega | (simp; done) | (simp; omega)) _ | refine Below.setCell ?_ (by first | omega | (simp; done) | (simp; omega)) _ | refine below_step (by assumption) (by first | omega | (simp; done) | (simp; omega)) ?_)⟩
      · have HE := Lib.hid (show R = false by rw [← hR, decide_eq_false hv, Bool.and_false, Bool.false_and, Bool.false_and, Bool.false_and])
        clear hR
        go_enter Tryd.func11, Tryd.ntmps11
        go_wp2
        refine bodyPost_ret (v := .bool false) (by simp [results, Tryd.results11, go_sem, ↓IntWalk.iteOmega, *]) rfl ⟨by rw [HE.out], by repeat (first | exact Below.refl _ _ | refine below_dN ?_ _ | refine Below.drew ?_ | refine Below.alloc ?_ (by first | omega | (simp; done) | (simp; omega)) _ | refine Below.setCell ?_ (by first | omega | (simp; done) | (simp; omega)) _ | refine below_step (by assumption) (by first | omega | (simp; done) | (simp; omega)) ?_)⟩
    · have HE := Lib.hid (show R = false by rw [← hR, decide_eq_false hk, Bool.false_and, Bool.false_and, Bool.false_and, Bool.false_and])
      clear hR
      go_enter Tryd.func11, Tryd.ntmps11
      go_wp2
      refine bodyPost_ret (v := .bool false) (by simp [results, Tryd.results11, go_sem, ↓IntWalk.iteOmega, *]) rfl ⟨by rw [HE.out], by repeat (first | exact Below.refl _ _ | refine below_dN ?_ _ | refine Below.drew ?_ | refine Below.alloc ?_ (by first | omega | (simp; done) | (simp; omega)) _ | refine Below.setCell ?_ (by first | omega | (simp; done) | (simp; omega)) _ | refine below_step (by assumption) (by first | omega | (simp; done) | (simp; omega)) ?_)⟩

set_option maxRecDepth 20000 in
set_option maxHeartbeats 8000000 in
theorem rsame_all : ∀ (N : Nat) (x : Sx), sxN x < N → ∀ (y : Sx) (vs us : List Value) (w : World), SxIs w (fun _ => False) vs x → SxIs w (fun _ => False) us y → sxB x →
    Calls Tryd.prog 12 #[.agg vs.toArray, .agg us.toArray] w fun e w' => e = .returned (.bool (sameX x y)) ∧ Below w.heap.size w w'
  | 0, _, h => absurd h (by omega)
  | N + 1, .mk k v l c t ka, hN => by
    intro y vs us w hx hy hB
    obtain ⟨k', v', l', c', t', kb⟩ := y
    have IH := Lib.hid (rsame_all N)
    unfold SxIs at hx hy
    obtain ⟨A, ca, rfl, hA, hcap, hrow⟩ := hx
    obtain ⟨A', cb, rfl, hA', hcap', hrow'⟩ := hy
    unfold sxB at hB
    obtain ⟨hlen, hBL⟩ := hB
    have HR := Lib.hid hrow
    have HR' := Lib.hid hrow'
    have HBL := Lib.hid hBL
    have HSZ := Lib.hid (sx_size2 hN)
    obtain ⟨R, hR⟩ : ∃ R, sameX (.mk k v l c t ka) (.mk k' v' l' c' t' kb) = R := ⟨_, rfl⟩
    rw [hR]
    unfold sameX at hR
    clear hrow hrow' hBL hN hA hA'
    by_cases hk : k = k'
    · subst hk
      by_cases hv : v = v'
      · subst hv
        by_cases ht : t = t'
        · subst ht
          by_cases hl : ka.length = kb.length
          · have HE0 := Lib.hid (show R = sameL ka kb by rw [← hR, decide_eq_true rfl, decide_eq_true rfl, decide_eq_true rfl, decide_eq_true hl]; simp)
            have hl2 : ((ka.length : Nat) : Int) = ((kb.length : Nat) : Int) := by omega
            have hlb : kb.length ≤ 140737488351232 := by omega
            clear hR
            have HL := Lib.hid hl
            clear hl
            have HL2 := Lib.hid hl2
            clear hl2
            go_enter Tryd.func12, Tryd.ntmps12
            have hne : ((ka.length : Int) != (kb.length : Int)) = false := by rw [HL2.out]; simp
            have hne2 : ¬ ((ka.length : Int) ≠ (kb.length : Int)) := fun h => h HL2.out
            go_wp2_with fail
            have HE := HE0
            obtain ⟨wa, hwa⟩ : ∃ wa : World, (w.alloc (Obj.cells #[.int .i64 k, .int .i64 v, .int .i64 l, .int .i64 c, .string (bs t), .slice A ka.length ca] 34)).alloc (Obj.cells #[.int .i64 k, .int .i64 v, .int .i64 l', .int .i64 c', .string (bs t), .slice A' kb.length cb] 34) = wa := ⟨_, rfl⟩
            have hba : Below w.heap.size w wa := by rw [← hwa]; repeat (first | exact Below.refl _ _ | refine below_dN ?_ _ | refine Below.drew ?_ | refine Below.alloc ?_ (by first | omega | (simp; done) | (simp; omega)) _ | refine Below.setCell ?_ (by first | omega | (simp; done) | (simp; omega)) _ | refine below_step (by assumption) (by first | omega | (simp; done) | (simp; omega)) ?_)
            have HA := Lib.hid hba
            have HY := Lib.hid (show BxI wa (w.heap.size + 1) 34 #[.int .i64 k, .int .i64 v, .int .i64 l', .int .i64 c', .string (bs t), .slice A' kb.length cb] by rw [← hwa]; exact box2 _ _ _ _)
            have HX := Lib.hid (show BxI wa w.heap.size 34 #[.int .i64 k, .int .i64 v, .int .i64 l, .int .i64 c, .string (bs t), .slice A ka.length ca] by rw [← hwa]; exact (BxI.new _ _ _).up ((Below.refl _ _).alloc (Nat.le_refl _) _))
            obtain ⟨X, hX⟩ : ∃ X, w.heap.size = X := ⟨_, rfl⟩
            obtain ⟨Y, hY⟩ : ∃ Y, X + 1 = Y := ⟨_, rfl⟩
            rw [hX] at HX HY
            rw [hY] at HY
            rw [hwa]
            rw [hX]
            rw [hY]
            clear hwa hba
            have HXX := Lib.hid hX
            clear hX
            go_loopw [5] (fun v wr => ∃ (j : Nat), v = .int .i64 j ∧ j ≤ ka.length ∧ Hid (∀ i, i < j → sameX (sx ka i) (sx kb i) = true) ∧ Hid (Below wa.heap.size wa wr)) (fun v _ => ka.length - (RowKit.intOf v).toNat)
            case atStart => exact ⟨0, rfl, Nat.zero_le _, Lib.hid (fun i h => by omega), Lib.hid (Below.refl _ _)⟩
            case round =>
              obtain ⟨j, rfl, hj, HS0, HB⟩ := hrel
              have HBW := Lib.hid (HA.out.trans (HB.out.mono HA.out.size))
              have e1 := (HX.out.up HB.out).cell 5 _ rfl
              have e2 := (HY.out.up HB.out).cell 5 _ rfl
              have g1 := (HX.out.up HB.out).lt
              have g2 := (HY.out.up HB.out).lt
              by_cases hlt : j < ka.length
              · have hd1 : decide ((j : Int) < (ka.length : Int)) = true := decide_eq_true (by omega)
                have hd2 : decide ((j : Int) < (kb.length : Int)) = true := decide_eq_true (by have := HL.out; omega)
                have hlt2 : j < kb.length := by have := HL.out; omega
                go_wp2_with fail
                obtain ⟨b, off, k1, v1, l1, c1, t1, ks1, A1, cap1, hxe1, rfl, hb1, hsx1, d0, d1, d2, d3, d4, d5⟩ := row_kid (RowAt.move (Moves.up HBW.out) _ _ _ HR.out) hlt
                obtain ⟨b2, off2, k2, v2, l2, c2, t2, ks2, A2, cap2, hxe2, rfl, hb2, hsx2, q0, q1, q2, q3, q4, q5⟩ := row_kid (RowAt.move (Moves.up HBW.out) _ _ _ HR'.out) hlt2
                obtain ⟨r, hr⟩ : ∃ r, sameX (.mk k1 v1 l1 c1 t1 ks1) (.mk k2 v2 l2 c2 t2 ks2) = r := ⟨_, rfl⟩
                have KC0 := Lib.hid (fun W (hb : Below wr.heap.size wr W) => IH.out _ (by rw [← hxe1]; exact HSZ.out j hlt) _ _ _ W (SxIs.move (Moves.up hb) _ _ hsx1) (SxIs.move (Moves.up hb) _ _ hsx2) (by rw [← hxe1]; exact sxBL_get _ _ HBL.out hlt))
                rw [hr] at KC0
                have KC := Lib.hid KC0.out
                have HRR := Lib.hid (show sameX (sx ka j) (sx kb j) = r by rw [hxe1, hxe2, hr])
                have HS1 := Lib.hid (show ∀ w' : World, Below wr.heap.size wr w' → w'.cell? ⟨X, 5, none⟩ = some (.slice (some ⟨b, off, none⟩) ka.length ca) ∧ w'.cell? ⟨Y, 5, none⟩ = some (.slice (some ⟨b2, off2, none⟩) kb.length cb) ∧ w'.cell? ⟨b, off + j * 6, none⟩ = some (.int .i64 k1) ∧ w'.cell? ⟨b, off + j * 6 + 1, none⟩ = some (.int .i64 v1) ∧ w'.cell? ⟨b, off + j * 6 + 2, none⟩ = some (.int .i64 l1) ∧ w'.cell? ⟨b, off + j * 6 + 3, none⟩ = some (.int .i64 c1) ∧ w'.cell? ⟨b, off + j * 6 + 4, none⟩ = some (.string (bs t1)) ∧ w'.cell? ⟨b, off + j * 6 + 5, none⟩ = some (.slice A1 ks1.length cap1) ∧ w'.cell? ⟨b2, off2 + j * 6, none⟩ = some (.int .i64 k2) ∧ w'.cell? ⟨b2, off2 + j * 6 + 1, none⟩ = some (.int .i64 v2) ∧ w'.cell? ⟨b2, off2 + j * 6 + 2, none⟩ = some (.int .i64 l2) ∧ w'.cell? ⟨b2, off2 + j * 6 + 3, none⟩ = some (.int .i64 c2) ∧ w'.cell? ⟨b2, off2 + j * 6 + 4, none⟩ = some (.string (bs t2)) ∧ w'.cell? ⟨b2, off2 + j * 6 + 5, none⟩ = some (.slice A2 ks2.length cap2) from fun w' hb =>
                  ⟨(hb.cell (p := ⟨X, 5, none⟩) g1).trans e1, (hb.cell (p := ⟨Y, 5, none⟩) g2).trans e2, (hb.cell (p := ⟨b, _, none⟩) hb1).trans d0, (hb.cell (p := ⟨b, _, none⟩) hb1).trans d1, (hb.cell (p := ⟨b, _, none⟩) hb1).trans d2, (hb.cell (p := ⟨b, _, none⟩) hb1).trans d3, (hb.cell (p := ⟨b, _, none⟩) hb1).trans d4, (hb.cell (p := ⟨b, _, none⟩) hb1).trans d5,
                    (hb.cell (p := ⟨b2, _, none⟩) hb2).trans q0, (hb.cell (p := ⟨b2, _, none⟩) hb2).trans q1, (hb.cell (p := ⟨b2, _, none⟩) hb2).trans q2, (hb.cell (p := ⟨b2, _, none⟩) hb2).trans q3, (hb.cell (p := ⟨b2, _, none⟩) hb2).trans q4, (hb.cell (p := ⟨b2, _, none⟩) hb2).trans q5⟩)
                clear KC0 hr hsx1 hsx2 hxe1 hxe2 e1 e2 d0 d1 d2 d3 d4 d5 q0 q1 q2 q3 q4 q5
                refine wp_region_G 10 (fun w' => w'.cell? ⟨X, 5, none⟩ = some (.slice (some ⟨b, off, none⟩) ka.length ca) ∧ w'.cell? ⟨Y, 5, none⟩ = some (.slice (some ⟨b2, off2, none⟩) kb.length cb) ∧ w'.cell? ⟨b, off + j * 6, none⟩ = some (.int .i64 k1) ∧ w'.cell? ⟨b, off + j * 6 + 1, none⟩ = some (.int .i64 v1) ∧ w'.cell? ⟨b, off + j * 6 + 2, none⟩ = some (.int .i64 l1) ∧ w'.cell? ⟨b, off + j * 6 + 3, none⟩ = some (.int .i64 c1) ∧ w'.cell? ⟨b, off + j * 6 + 4, none⟩ = some (.string (bs t1)) ∧ w'.cell? ⟨b, off + j * 6 + 5, none⟩ = some (.slice A1 ks1.length cap1) ∧ w'.cell? ⟨b2, off2 + j * 6, none⟩ = some (.int .i64 k2) ∧ w'.cell? ⟨b2, off2 + j * 6 + 1, none⟩ = some (.int .i64 v2) ∧ w'.cell? ⟨b2, off2 + j * 6 + 2, none⟩ = some (.int .i64 l2) ∧ w'.cell? ⟨b2, off2 + j * 6 + 3, none⟩ = some (.int .i64 c2) ∧ w'.cell? ⟨b2, off2 + j * 6 + 4, none⟩ = some (.string (bs t2)) ∧ w'.cell? ⟨b2, off2 + j * 6 + 5, none⟩ = some (.slice A2 ks2.length cap2)) (by kernel_rfl) (HS1.out _ (by repeat (first | exact Below.refl _ _ | refine below_dN ?_ _ | refine Below.drew ?_ | refine Below.alloc ?_ (by first | omega | (simp; done) | (simp; omega)) _ | refine Below.setCell ?_ (by first | omega | (simp; done) | (simp; omega)) _ | refine below_step (by assumption) (by first | omega | (simp; done) | (simp; omega)) ?_))) ?_
                intro hG0
                refine wpS1 0 hG0 ?_; intro hG1; clear hG0
                refine wpS2 1 hG1 ?_; intro hG2; clear hG1
                refine wpS1 2 hG2 ?_; intro hG3; clear hG2
                refine wpS1 3 hG3 ?_; intro hG4; clear hG3
                refine wpS2 4 hG4 ?_; intro hG5; clear hG4
                refine wpS1 5 hG5 ?_; intro hG6; clear hG5
                refine wpS2 6 hG6 ?_; intro hG7; clear hG6
                refine wpS1 7 hG7 ?_; intro hG8; clear hG7
                refine wpS1 8 hG8 ?_; intro hG9; clear hG8
                refine wpS2 9 hG9 ?_; intro hG10; clear hG9
                refine wpAnyG_ready (rs := [10]) (by kernel_rfl) (by simp) (AllG.cons rfl hG10 (fun K hK => ?_) AllG.nil)
                (go_simp; go_at_call 12; refine (KC.out _ (by repeat (first | exact Below.refl _ _ | refine below_dN ?_ _ | refine Below.drew ?_ | refine Below.alloc ?_ (by first | omega | (simp; done) | (simp; omega)) _ | refine Below.setCell ?_ (by first | omega | (simp; done) | (simp; omega)) _ | refine below_step (by assumption) (by first | omega | (simp; done) | (simp; omega)) ?_))).mono ?_; rintro e w3 ⟨rfl, hb3⟩; have HB3 := Lib.hid (HB.out.trans (((show Below wr.heap.size wr wr.drew by repeat (first | exact Below.refl _ _ | refine below_dN ?_ _ | refine Below.drew ?_ | refine Below.alloc ?_ (by first | omega | (simp; done) | (simp; omega)) _ | refine Below.setCell ?_ (by first | omega | (simp; done) | (simp; omega)) _ | refine below_step (by assumption) (by first | omega | (simp; done) | (simp; omega)) ?_)).trans (hb3.mono (by simp))).mono HB.out.size)); clear hb3)
                refine hK.out _ _ (Or.inl rfl) (fun hG11 => wpN ?_); clear hK hG10
                refine wpS1 11 hG11 ?_; intro hG12; clear hG11
                refine wpAnyG_done (by kernel_rfl) ?_ _; clear hG12
                cases r with
                | true =>
                  have HS2 := Lib.hid (show ∀ i, i < j + 1 → sameX (sx ka i) (sx kb i) = true from fun i hi => by
                    by_cases e : i = j
                    · subst e; exact HRR.out
                    · exact HS0.out i (by omega))
                  go_wp2
                  go_roundw
                  case rel => exact ⟨j + 1, rfl, by omega, HS2, HB3⟩
                  case measure => simp [RowKit.intOf]; omega
                | false =>
                  have HE2 := Lib.hid (show R = false by rw [HE.out]; exact sameL_stop ka kb j HL.out hlt HRR.out)
                  go_wp2
                  refine bodyPost_ret (v := .bool false) (by simp [results, Tryd.results12, go_sem, ↓IntWalk.iteOmega, *]) rfl ⟨by rw [HE2.out], HA.out.trans (HB3.out.mono HA.out.size)⟩
              · obtain rfl : j = ka.length := by omega
                have hd1 : decide ((ka.length : Int) < (ka.length : Int)) = false := by simp
                have HE2 := Lib.hid (show R = true by rw [HE.out]; exact sameL_all ka kb HL.out HS0.out)
                go_wp2
                refine bodyPost_ret (v := .bool true) (by simp [results, Tryd.results12, go_sem, ↓IntWalk.iteOmega, *]) rfl ⟨by rw [HE2.out], HBW.out⟩
          · have HE := Lib.hid (show R = false by rw [← hR, decide_eq_false hl, Bool.and_false, Bool.false_and])
            have hl2 : ¬ ((ka.length : Nat) : Int) = ((kb.length : Nat) : Int) := by omega
            clear hR
            go_enter Tryd.func12, Tryd.ntmps12
            go_wp2
            refine bodyPost_ret (v := .bool false) (by simp [results, Tryd.results12, go_sem, ↓IntWalk.iteOmega, *]) rfl ⟨by rw [HE.out], by repeat (first | exact Below.refl _ _ | refine below_dN ?_ _ | refine Below.drew ?_ | refine Below.alloc ?_ (by first | omega | (simp; done) | (simp; omega)) _ | refine Below.setCell ?_ (by first | omega | (simp; done) | (simp; omega)) _ | refine below_step (by assumption) (by first | omega | (simp; done) | (simp; omega)) ?_)⟩
        · have HE := Lib.hid (show R = false by rw [← hR, decide_eq_false ht, Bool.and_false, Bool.false_and, Bool.false_and])
          have hts : ((bs t).toList == (bs t').toList) = false := by
            rw [Lib.toList_data, Lib.toList_data, bs_data, bs_data]; exact beq_eq_false_iff_ne.2 ht
          clear hR
          go_enter Tryd.func12, Tryd.ntmps12
          go_wp2
          refine bodyPost_ret (v := .bool false) (by simp [results, Tryd.results12, go_sem, ↓IntWalk.iteOmega, *]) rfl ⟨by rw [HE.out], by repeat (first | exact Below.refl _ _ | refine below_dN ?_ _ | refine Below.drew ?_ | refine Below.alloc ?_ (by first | omega | (simp; done) | (simp; omega)) _ | refine Below.setCell ?_ (by first | omega | (simp; done) | (simp; omega)) _ | refine below_step (by assumption) (by first | omega | (simp; done) | (simp; omega)) ?_)⟩
      · have HE := Lib.hid (show R = false by rw [← hR, decide_eq_false hv, Bool.and_false, Bool.false_and, Bool.false_and, Bool.false_and])
        clear hR
        go_enter Tryd.func12, Tryd.ntmps12
        go_wp2
        refine bodyPost_ret (v := .bool false) (by simp [results, Tryd.results12, go_sem, ↓IntWalk.iteOmega, *]) rfl ⟨by rw [HE.out], by repeat (first | exact Below.refl _ _ | refine below_dN ?_ _ | refine Below.drew ?_ | refine Below.alloc ?_ (by first | omega | (simp; done) | (simp; omega)) _ | refine Below.setCell ?_ (by first | omega | (simp; done) | (simp; omega)) _ | refine below_step (by assumption) (by first | omega | (simp; done) | (simp; omega)) ?_)⟩
    · have HE := Lib.hid (show R = false by rw [← hR, decide_eq_false hk, Bool.false_and, Bool.false_and, Bool.false_and, Bool.false_and])
      clear hR
      go_enter Tryd.func12, Tryd.ntmps12
      go_wp2
      refine bodyPost_ret (v := .bool false) (by simp [results, Tryd.results12, go_sem, ↓IntWalk.iteOmega, *]) rfl ⟨by rw [HE.out], by repeat (first | exact Below.refl _ _ | refine below_dN ?_ _ | refine Below.drew ?_ | refine Below.alloc ?_ (by first | omega | (simp; done) | (simp; omega)) _ | refine Below.setCell ?_ (by first | omega | (simp; done) | (simp; omega)) _ | refine below_step (by assumption) (by first | omega | (simp; done) | (simp; omega)) ?_)⟩

end Go.Proofs.YtebgaicapjpohaaDoor
