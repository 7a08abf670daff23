/- partition.Valid. -/
import Derived.Test.YtaomaopbdilmnaaPartH
namespace Go.Proofs.Ytaomaopbdilmnaa
set_option linter.unusedSimpArgs false
set_option linter.unusedVariables false
open Go.RowKit
set_option linter.unusedVariables false

set_option maxRecDepth 100000 in
set_option maxHeartbeats 8000000 in
theorem valid38_any (costs : List Int) (l : List Cut) (v : List (Int × Int)) (A1 A2 A3 : Option Addr) (c1 c2 c3 : Nat) (w : World) (h1 : IntsAt w w.heap.size A1 costs) (h2 : CutsAt w w.heap.size A2 l) (h3 : FactsAt w w.heap.size A3 v) :
    Calls Try.prog 41 #[.slice A1 costs.length c1, .slice A2 l.length c2, .slice A3 v.length c3] w fun e w' => e = .returned (.bool (vldB costs l v)) ∧ Below w.heap.size w w' := by
  have k1 := fun w1 (hb : Below w.heap.size w w1) => check38_any costs l A1 A2 c1 c2 w1 (h1.up hb) (h2.up hb)
  have l1 := h1.len
  have l2 := h2.len
  have l3 := h3.len
  by_cases e0 : chk38 costs l = 0
  case neg =>
    have Hr := Lib.hid (vld_chk (v := v) e0)
    have He := Lib.hid (errV_ne e0)
    simp only [He.out] at k1
    clear e0
    go_enter Try.func41, Try.ntmps41
    go_wp2_with fail; refine (k1 _ (by repeat (first | exact Below.refl _ _ | refine below_dN ?_ _ | refine Below.drew ?_ | refine Below.alloc ?_ (by first | omega | (simp; done) | (simp; omega)) _ | refine Below.setCell ?_ (by first | omega | (simp; done) | (simp; omega)) _ | refine below_step (by assumption) (by first | omega | (simp; done) | (simp; omega)) ?_))).mono ?_; rintro e w1 ⟨rfl, hb1⟩; obtain ⟨hc1, hf1, hz1, hlt1, hle1⟩ := cellsIf hb1 (by (try simp); exact rfl); (try have : w.heap.size < w1.heap.size := (by omega)); (try have : w.heap.size < w1.heap.size + 1 := (by omega)); (try have : w.heap.size < w1.heap.size + 1 + 1 := (by omega)); (try have : w.heap.size + 1 < w1.heap.size := (by omega)); (try have : w.heap.size + 1 < w1.heap.size + 1 := (by omega)); (try have : w.heap.size + 1 < w1.heap.size + 1 + 1 := (by omega)); (try have : w.heap.size + 1 + 1 < w1.heap.size := (by omega)); (try have : w.heap.size + 1 + 1 < w1.heap.size + 1 := (by omega)); (try have : w.heap.size + 1 + 1 < w1.heap.size + 1 + 1 := (by omega))
    go_wp2
    go_ret
    exact ⟨bool_ret Hr.out.symm, by repeat (first | exact Below.refl _ _ | refine below_dN ?_ _ | refine Below.drew ?_ | refine Below.alloc ?_ (by first | omega | (simp; done) | (simp; omega)) _ | refine Below.setCell ?_ (by first | omega | (simp; done) | (simp; omega)) _ | refine below_step (by assumption) (by first | omega | (simp; done) | (simp; omega)) ?_)⟩
  have G := Lib.hid (good38 e0)
  have H0 := Lib.hid e0
  have hm24 := G.out.many
  simp only [e0, errV_0] at k1
  clear e0
  by_cases e1 : v.length = l.length
  case neg =>
    have Hr := Lib.hid (vld_len (costs := costs) e1)
    have e2 : ((v.length : Int) != (l.length : Int)) = true := by simp; omega
    clear e1
    go_enter Try.func41, Try.ntmps41
    go_wp2_with fail; refine (k1 _ (by repeat (first | exact Below.refl _ _ | refine below_dN ?_ _ | refine Below.drew ?_ | refine Below.alloc ?_ (by first | omega | (simp; done) | (simp; omega)) _ | refine Below.setCell ?_ (by first | omega | (simp; done) | (simp; omega)) _ | refine below_step (by assumption) (by first | omega | (simp; done) | (simp; omega)) ?_))).mono ?_; rintro e w1 ⟨rfl, hb1⟩; obtain ⟨hc1, hf1, hz1, hlt1, hle1⟩ := cellsIf hb1 (by (try simp); exact rfl); (try have : w.heap.size < w1.heap.size := (by omega)); (try have : w.heap.size < w1.heap.size + 1 := (by omega)); (try have : w.heap.size < w1.heap.size + 1 + 1 := (by omega)); (try have : w.heap.size + 1 < w1.heap.size := (by omega)); (try have : w.heap.size + 1 < w1.heap.size + 1 := (by omega)); (try have : w.heap.size + 1 < w1.heap.size + 1 + 1 := (by omega)); (try have : w.heap.size + 1 + 1 < w1.heap.size := (by omega)); (try have : w.heap.size + 1 + 1 < w1.heap.size + 1 := (by omega)); (try have : w.heap.size + 1 + 1 < w1.heap.size + 1 + 1 := (by omega))
    go_wp2
    go_ret
    exact ⟨bool_ret Hr.out.symm, by repeat (first | exact Below.refl _ _ | refine below_dN ?_ _ | refine Below.drew ?_ | refine Below.alloc ?_ (by first | omega | (simp; done) | (simp; omega)) _ | refine Below.setCell ?_ (by first | omega | (simp; done) | (simp; omega)) _ | refine below_step (by assumption) (by first | omega | (simp; done) | (simp; omega)) ?_)⟩
  have HE := Lib.hid e1
  have e2 : ((v.length : Int) != (l.length : Int)) = false := by simp [e1]
  have v24 : v.length ≤ 24 := by omega
  clear e1
  obtain ⟨inf, hi, iz0, iz1, iz2⟩ := info_parts infoC
  go_enter Try.func41, Try.ntmps41
  go_wp2_with fail; refine (k1 _ (by repeat (first | exact Below.refl _ _ | refine below_dN ?_ _ | refine Below.drew ?_ | refine Below.alloc ?_ (by first | omega | (simp; done) | (simp; omega)) _ | refine Below.setCell ?_ (by first | omega | (simp; done) | (simp; omega)) _ | refine below_step (by assumption) (by first | omega | (simp; done) | (simp; omega)) ?_))).mono ?_; rintro e w1 ⟨rfl, hb1⟩; obtain ⟨hc1, hf1, hz1, hlt1, hle1⟩ := cellsIf hb1 (by (try simp); exact rfl); (try have : w.heap.size < w1.heap.size := (by omega)); (try have : w.heap.size < w1.heap.size + 1 := (by omega)); (try have : w.heap.size < w1.heap.size + 1 + 1 := (by omega)); (try have : w.heap.size + 1 < w1.heap.size := (by omega)); (try have : w.heap.size + 1 < w1.heap.size + 1 := (by omega)); (try have : w.heap.size + 1 < w1.heap.size + 1 + 1 := (by omega)); (try have : w.heap.size + 1 + 1 < w1.heap.size := (by omega)); (try have : w.heap.size + 1 + 1 < w1.heap.size + 1 := (by omega)); (try have : w.heap.size + 1 + 1 < w1.heap.size + 1 + 1 := (by omega))
  have hbw : Below w.heap.size w w1 := by repeat (first | exact Below.refl _ _ | refine below_dN ?_ _ | refine Below.drew ?_ | refine Below.alloc ?_ (by first | omega | (simp; done) | (simp; omega)) _ | refine Below.setCell ?_ (by first | omega | (simp; done) | (simp; omega)) _ | refine below_step (by assumption) (by first | omega | (simp; done) | (simp; omega)) ?_)
  clear hc1 hf1 hz1 hlt1 hle1 hb1
  go_wp2
  go_loopw [29] (fun i wr => ∃ k : Nat, k ≤ v.length ∧ i = .int .i64 k ∧ anyB k (badF v) = false ∧ Below w.heap.size w wr) (fun i _ => v.length - (intOf i).toNat)
  case atStart => exact ⟨0, by omega, rfl, rfl, hbw⟩
  case round =>
    clear hbw
    obtain ⟨k, hk, rfl, hB, hbel⟩ := hrel
    have HB := Lib.hid hB
    clear hB
    obtain ⟨wt, rfl⟩ : ∃ wt : World, wt = wr := ⟨_, rfl⟩
    by_cases hlt : k < v.length
    · obtain ⟨b, o, eA, hb, hc⟩ := h3.at_ hlt
      subst eA
      have d1 := (hbel.cell (p := ⟨b, o + k * 2, none⟩) hb).trans (hc k hlt).1
      have d2 := (hbel.cell (p := ⟨b, o + k * 2 + 1, none⟩) hb).trans (hc k hlt).2
      have hbz := hbel.size
      have g2 : b < wt.heap.size := by omega
      clear hc
      have k2 := fun W => proper_any (fv v k) (fx v k) W
      cases e3 : prB (fv v k) (fx v k)
      · have Hr := Lib.hid (vld_bad (costs := costs) (l := l) hlt (by unfold badF; rw [e3]; rfl))
        rw [e3] at k2
        go_wp2_with fail; refine (k2 _).mono ?_; rintro e w2 ⟨rfl, hb2⟩; obtain ⟨hc2, hf2, hz2, hlt2, hle2⟩ := cellsIf hb2 (by (try simp); exact rfl); (try have : w.heap.size < w2.heap.size := (by omega)); (try have : w.heap.size < w2.heap.size + 1 := (by omega)); (try have : w.heap.size < w2.heap.size + 1 + 1 := (by omega)); (try have : w.heap.size + 1 < w2.heap.size := (by omega)); (try have : w.heap.size + 1 < w2.heap.size + 1 := (by omega)); (try have : w.heap.size + 1 < w2.heap.size + 1 + 1 := (by omega)); (try have : w.heap.size + 1 + 1 < w2.heap.size := (by omega)); (try have : w.heap.size + 1 + 1 < w2.heap.size + 1 := (by omega)); (try have : w.heap.size + 1 + 1 < w2.heap.size + 1 + 1 := (by omega)); (try have : w1.heap.size < w2.heap.size := (by omega)); (try have : w1.heap.size < w2.heap.size + 1 := (by omega)); (try have : w1.heap.size < w2.heap.size + 1 + 1 := (by omega)); (try have : w1.heap.size + 1 < w2.heap.size := (by omega)); (try have : w1.heap.size + 1 < w2.heap.size + 1 := (by omega)); (try have : w1.heap.size + 1 < w2.heap.size + 1 + 1 := (by omega)); (try have : w1.heap.size + 1 + 1 < w2.heap.size := (by omega)); (try have : w1.heap.size + 1 + 1 < w2.heap.size + 1 := (by omega)); (try have : w1.heap.size + 1 + 1 < w2.heap.size + 1 + 1 := (by omega))
        go_wp2
        go_ret
        exact ⟨bool_ret Hr.out.symm, by repeat (first | exact Below.refl _ _ | refine below_dN ?_ _ | refine Below.drew ?_ | refine Below.alloc ?_ (by first | omega | (simp; done) | (simp; omega)) _ | refine Below.setCell ?_ (by first | omega | (simp; done) | (simp; omega)) _ | refine below_step (by assumption) (by first | omega | (simp; done) | (simp; omega)) ?_)⟩
      · rw [e3] at k2
        by_cases e4 : fv v k < 0
        · have Hr := Lib.hid (vld_bad (costs := costs) (l := l) hlt (by unfold badF; rw [e3]; simp [e4]))
          have e5 : decide (fv v k < 0) = true := by simpa using e4
          go_wp2_with fail; refine (k2 _).mono ?_; rintro e w2 ⟨rfl, hb2⟩; obtain ⟨hc2, hf2, hz2, hlt2, hle2⟩ := cellsIf hb2 (by (try simp); exact rfl); (try have : w.heap.size < w2.heap.size := (by omega)); (try have : w.heap.size < w2.heap.size + 1 := (by omega)); (try have : w.heap.size < w2.heap.size + 1 + 1 := (by omega)); (try have : w.heap.size + 1 < w2.heap.size := (by omega)); (try have : w.heap.size + 1 < w2.heap.size + 1 := (by omega)); (try have : w.heap.size + 1 < w2.heap.size + 1 + 1 := (by omega)); (try have : w.heap.size + 1 + 1 < w2.heap.size := (by omega)); (try have : w.heap.size + 1 + 1 < w2.heap.size + 1 := (by omega)); (try have : w.heap.size + 1 + 1 < w2.heap.size + 1 + 1 := (by omega)); (try have : w1.heap.size < w2.heap.size := (by omega)); (try have : w1.heap.size < w2.heap.size + 1 := (by omega)); (try have : w1.heap.size < w2.heap.size + 1 + 1 := (by omega)); (try have : w1.heap.size + 1 < w2.heap.size := (by omega)); (try have : w1.heap.size + 1 < w2.heap.size + 1 := (by omega)); (try have : w1.heap.size + 1 < w2.heap.size + 1 + 1 := (by omega)); (try have : w1.heap.size + 1 + 1 < w2.heap.size := (by omega)); (try have : w1.heap.size + 1 + 1 < w2.heap.size + 1 := (by omega)); (try have : w1.heap.size + 1 + 1 < w2.heap.size + 1 + 1 := (by omega))
          go_wp2
          go_ret
          exact ⟨bool_ret Hr.out.symm, by repeat (first | exact Below.refl _ _ | refine below_dN ?_ _ | refine Below.drew ?_ | refine Below.alloc ?_ (by first | omega | (simp; done) | (simp; omega)) _ | refine Below.setCell ?_ (by first | omega | (simp; done) | (simp; omega)) _ | refine below_step (by assumption) (by first | omega | (simp; done) | (simp; omega)) ?_)⟩
        · have e5 : decide (fv v k < 0) = false := by simpa using e4
          have Hg := Lib.hid (show badF v k = false by unfold badF; rw [e3, e5]; rfl)
          go_wp2_with fail; refine (k2 _).mono ?_; rintro e w2 ⟨rfl, hb2⟩; obtain ⟨hc2, hf2, hz2, hlt2, hle2⟩ := cellsIf hb2 (by (try simp); exact rfl); (try have : w.heap.size < w2.heap.size := (by omega)); (try have : w.heap.size < w2.heap.size + 1 := (by omega)); (try have : w.heap.size < w2.heap.size + 1 + 1 := (by omega)); (try have : w.heap.size + 1 < w2.heap.size := (by omega)); (try have : w.heap.size + 1 < w2.heap.size + 1 := (by omega)); (try have : w.heap.size + 1 < w2.heap.size + 1 + 1 := (by omega)); (try have : w.heap.size + 1 + 1 < w2.heap.size := (by omega)); (try have : w.heap.size + 1 + 1 < w2.heap.size + 1 := (by omega)); (try have : w.heap.size + 1 + 1 < w2.heap.size + 1 + 1 := (by omega)); (try have : w1.heap.size < w2.heap.size := (by omega)); (try have : w1.heap.size < w2.heap.size + 1 := (by omega)); (try have : w1.heap.size < w2.heap.size + 1 + 1 := (by omega)); (try have : w1.heap.size + 1 < w2.heap.size := (by omega)); (try have : w1.heap.size + 1 < w2.heap.size + 1 := (by omega)); (try have : w1.heap.size + 1 < w2.heap.size + 1 + 1 := (by omega)); (try have : w1.heap.size + 1 + 1 < w2.heap.size := (by omega)); (try have : w1.heap.size + 1 + 1 < w2.heap.size + 1 := (by omega)); (try have : w1.heap.size + 1 + 1 < w2.heap.size + 1 + 1 := (by omega))
          go_wp2
          go_roundw
          case rel => exact ⟨k + 1, by omega, by go_num, (by rw [anyB_succ, HB.out, Hg.out]; rfl), by repeat (first | exact Below.refl _ _ | refine below_dN ?_ _ | refine Below.drew ?_ | refine Below.alloc ?_ (by first | omega | (simp; done) | (simp; omega)) _ | refine Below.setCell ?_ (by first | omega | (simp; done) | (simp; omega)) _ | refine below_step (by assumption) (by first | omega | (simp; done) | (simp; omega)) ?_)⟩
          case measure => simp [intOf]; omega
    · obtain rfl : k = v.length := by omega
      have H2 := Lib.hid HB.out
      clear HB hlt hk
      go_wp2
      go_loopw [44] (fun i wr => ∃ k : Nat, k ≤ costs.length ∧ i = .int .i64 k ∧ anyB k (overO costs l v) = false ∧ Below w.heap.size w wr) (fun i _ => costs.length - (intOf i).toNat)
      case atStart => exact ⟨0, by omega, rfl, rfl, hbel⟩
      case round =>
        clear hbel
        obtain ⟨o, hk, rfl, hB, hbel⟩ := hrel
        have HB := Lib.hid hB
        clear hB
        obtain ⟨wu, rfl⟩ : ∃ wu : World, wu = wr := ⟨_, rfl⟩
        by_cases hlt : o < costs.length
        · obtain ⟨b1, o1, eA1, hb1, d1⟩ := h1.at2 hbel hlt
          subst eA1
          have hbz := hbel.size
          have x0 : (0 : Int) ≤ (o : Int) := by omega
          have x1 : (o : Int) < (costs.length : Int) := by omega
          go_wp2
          go_loopw [11, 51] (fun p i wx => ∃ j : Nat, j ≤ l.length ∧ i = .int .i64 j ∧ wx.ownsRow w.heap.size 29 2 p (paidK l v o j).length (fc (paidK l v o j)) ∧ Below w.heap.size w wx) (fun _ i _ => l.length - (intOf i).toNat)
          case atStart => exact ⟨0, by omega, rfl, World.ownsRow_nil _ _ _ _, hbel⟩
          case round =>
            obtain ⟨j, hj, rfl, hown, hbx⟩ := hrel
            have hbxz := hbx.size
            by_cases hltj : j < l.length
            · obtain ⟨b, o2, S, c, ea, hb, d3, hS, d4⟩ := h2.at2 hbx hltj
              subst ea
              obtain ⟨b3, o3, eA3, hb3, hc3⟩ := h3.at_ (show j < v.length by have := HE.out; omega)
              have d5 := (hbx.cell (p := ⟨b3, o3 + j * 2, none⟩) hb3).trans (hc3 j (by have := HE.out; omega)).1
              have d6 := (hbx.cell (p := ⟨b3, o3 + j * 2 + 1, none⟩) hb3).trans (hc3 j (by have := HE.out; omega)).2
              clear hc3
              subst eA3
              have y0 : (0 : Int) ≤ (j : Int) := by omega
              have y1 : (j : Int) < (l.length : Int) := by omega
              have y2 : (j : Int) < (v.length : Int) := by have := HE.out; omega
              have g2 : b < wr.heap.size := by omega
              have g3 : b3 < wr.heap.size := by omega
              have j1 := hS.len
              have hpl := paidK_len l v o j
              have k3 := fun w1 (hb : Below w.heap.size w w1) => contains5_any (cut l j).ops S c o w1 (hS.keep (fun _ hp => hb.cell hp) hb.size)
              cases e6 : inN (cut l j).ops o (cut l j).ops.length
              · rw [e6] at k3
                have HP := Lib.hid (paidK_no (v := v) e6)
                go_wp2_with fail; refine (k3 _ (by repeat (first | exact Below.refl _ _ | refine below_dN ?_ _ | refine Below.drew ?_ | refine Below.alloc ?_ (by first | omega | (simp; done) | (simp; omega)) _ | refine Below.setCell ?_ (by first | omega | (simp; done) | (simp; omega)) _ | refine below_step (by assumption) (by first | omega | (simp; done) | (simp; omega)) ?_))).mono ?_; rintro e w3 ⟨rfl, hb3⟩; obtain ⟨hc3, hf3, hz3, hlt3, hle3⟩ := cellsIf hb3 (by (try simp); exact rfl)
                have hb3w : Below wr.heap.size wr w3 := by repeat (first | exact Below.refl _ _ | refine below_dN ?_ _ | refine Below.drew ?_ | refine Below.alloc ?_ (by first | omega | (simp; done) | (simp; omega)) _ | refine Below.setCell ?_ (by first | omega | (simp; done) | (simp; omega)) _ | refine below_step (by assumption) (by first | omega | (simp; done) | (simp; omega)) ?_)
                have hown3 := own_below hown hb3w
                have hbw3 := hbx.trans (hb3w.mono hbxz)
                clear hc3 hf3 hlt3 hle3
                go_wp2
                go_roundw
                case rel => exact ⟨j + 1, by omega, by go_num, by rw [HP.out]; exact hown3, hbw3⟩
                case measure => simp [intOf]; omega
              · rw [e6] at k3
                have HP := Lib.hid (paidK_yes (v := v) e6)
                go_wp2_with fail; refine (k3 _ (by repeat (first | exact Below.refl _ _ | refine below_dN ?_ _ | refine Below.drew ?_ | refine Below.alloc ?_ (by first | omega | (simp; done) | (simp; omega)) _ | refine Below.setCell ?_ (by first | omega | (simp; done) | (simp; omega)) _ | refine below_step (by assumption) (by first | omega | (simp; done) | (simp; omega)) ?_))).mono ?_; rintro e w3 ⟨rfl, hb3⟩; obtain ⟨hc3, hf3, hz3, hlt3, hle3⟩ := cellsIf hb3 (by (try simp); exact rfl)
                have hb3w : Below wr.heap.size wr w3 := by repeat (first | exact Below.refl _ _ | refine below_dN ?_ _ | refine Below.drew ?_ | refine Below.alloc ?_ (by first | omega | (simp; done) | (simp; omega)) _ | refine Below.setCell ?_ (by first | omega | (simp; done) | (simp; omega)) _ | refine below_step (by assumption) (by first | omega | (simp; done) | (simp; omega)) ?_)
                have hown3 := own_below hown hb3w
                have hbw3 := hbx.trans (hb3w.mono hbxz)
                have hz3' := hbw3.size
                go_wp2_with (at_builtin; refine wpList_push rfl _ _ 22 rfl w.heap.size 29 inf (.agg #[.int .i64 0, .int .i64 0]) 2 16 undC hi iz0 iz1 iz2 rfl (by decide) (by decide) u11 (paidK l v o j).length (fc (paidK l v o j)) rfl (hown3.alloc _) w3.heap.size 29 [.int .i64 (fv v j), .int .i64 (fx v j)] rfl rfl (heap_alloc_new _ _) (two_one rfl rfl) (by omega) (by first | omega | (simp; omega)) (B := w.heap.size) (W := w) (by repeat (first | exact Below.refl _ _ | refine below_dN ?_ _ | refine Below.drew ?_ | refine Below.alloc ?_ (by first | omega | (simp; done) | (simp; omega)) _ | refine Below.setCell ?_ (by first | omega | (simp; done) | (simp; omega)) _ | refine below_step (by assumption) (by first | omega | (simp; done) | (simp; omega)) ?_)) (Nat.le_refl _) ?_; intro v' w8 hown' hgrow hat hbw8; have Hown := Lib.hid hown'; clear hown' hgrow hat)
                go_roundw
                case rel => exact ⟨j + 1, by omega, by go_num, by rw [HP.out, List.length_append, fc_app]; exact Hown.out, hbw8⟩
                case measure => simp [intOf]; omega
            · obtain rfl : j = l.length := by omega
              have hpl := paidK_len l v o l.length
              obtain ⟨A, d, rfl, hAd, hfa⟩ := gotFs_own hown rfl (by omega)
              have k4 := fun w1 (hb : Below wr.heap.size wr w1) => sum_any _ A d w1 (hfa.keep (fun _ hp => hb.cell hp) hb.size)
              have HO : Hid (overO costs l v o = (decide ((sumF (paidK l v o l.length)).2.2 ≠ 0) || decide (0 < cmpF (sumF (paidK l v o l.length)).1 (sumF (paidK l v o l.length)).2.1 (nth costs o) 1))) := rfl
              obtain ⟨⟨n, dd, code⟩, hs⟩ : ∃ r, sumF (paidK l v o l.length) = r := ⟨_, rfl⟩
              rw [hs] at k4 HO
              clear hs hown hfa
              unfold RetFE at k4
              dsimp only at k4 HO
              have d1' := (hbx.cell (p := ⟨b1, o1 + o, none⟩) hb1).trans ((hbel.cell (p := ⟨b1, o1 + o, none⟩) hb1).symm.trans d1)
              have g1 : b1 < wr.heap.size := by omega
              by_cases h0 : code = 0
              · subst h0
                simp only [Ne, not_true_eq_false, decide_false, Bool.false_or] at HO
                simp only [errV_0] at k4
                have k5 := fun W => whole_any (nth costs o) W
                have k6 := fun W => cmp_any n dd (nth costs o) 1 W
                generalize cmpF n dd (nth costs o) 1 = C at k6 HO
                have K5 := Lib.hid k5
                have K6 := Lib.hid k6
                clear k5 k6
                go_wp2_with fail; refine (k4 _ (by repeat (first | exact Below.refl _ _ | refine below_dN ?_ _ | refine Below.drew ?_ | refine Below.alloc ?_ (by first | omega | (simp; done) | (simp; omega)) _ | refine Below.setCell ?_ (by first | omega | (simp; done) | (simp; omega)) _ | refine below_step (by assumption) (by first | omega | (simp; done) | (simp; omega)) ?_))).mono ?_; rintro e w4 ⟨rfl, hb4⟩; obtain ⟨hc4, hf4, hz4, hlt4, hle4⟩ := cellsIf hb4 (by (try simp); exact rfl); (try have : w.heap.size < w4.heap.size := (by omega)); (try have : w.heap.size < w4.heap.size + 1 := (by omega)); (try have : w.heap.size < w4.heap.size + 1 + 1 := (by omega)); (try have : w.heap.size + 1 < w4.heap.size := (by omega)); (try have : w.heap.size + 1 < w4.heap.size + 1 := (by omega)); (try have : w.heap.size + 1 < w4.heap.size + 1 + 1 := (by omega)); (try have : w.heap.size + 1 + 1 < w4.heap.size := (by omega)); (try have : w.heap.size + 1 + 1 < w4.heap.size + 1 := (by omega)); (try have : w.heap.size + 1 + 1 < w4.heap.size + 1 + 1 := (by omega)); (try have : w1.heap.size < w4.heap.size := (by omega)); (try have : w1.heap.size < w4.heap.size + 1 := (by omega)); (try have : w1.heap.size < w4.heap.size + 1 + 1 := (by omega)); (try have : w1.heap.size + 1 < w4.heap.size := (by omega)); (try have : w1.heap.size + 1 < w4.heap.size + 1 := (by omega)); (try have : w1.heap.size + 1 < w4.heap.size + 1 + 1 := (by omega)); (try have : w1.heap.size + 1 + 1 < w4.heap.size := (by omega)); (try have : w1.heap.size + 1 + 1 < w4.heap.size + 1 := (by omega)); (try have : w1.heap.size + 1 + 1 < w4.heap.size + 1 + 1 := (by omega)); (try have : w2.heap.size < w4.heap.size := (by omega)); (try have : w2.heap.size < w4.heap.size + 1 := (by omega)); (try have : w2.heap.size < w4.heap.size + 1 + 1 := (by omega)); (try have : w2.heap.size + 1 < w4.heap.size := (by omega)); (try have : w2.heap.size + 1 < w4.heap.size + 1 := (by omega)); (try have : w2.heap.size + 1 < w4.heap.size + 1 + 1 := (by omega)); (try have : w2.heap.size + 1 + 1 < w4.heap.size := (by omega)); (try have : w2.heap.size + 1 + 1 < w4.heap.size + 1 := (by omega)); (try have : w2.heap.size + 1 + 1 < w4.heap.size + 1 + 1 := (by omega)); (try have : w3.heap.size < w4.heap.size := (by omega)); (try have : w3.heap.size < w4.heap.size + 1 := (by omega)); (try have : w3.heap.size < w4.heap.size + 1 + 1 := (by omega)); (try have : w3.heap.size + 1 < w4.heap.size := (by omega)); (try have : w3.heap.size + 1 < w4.heap.size + 1 := (by omega)); (try have : w3.heap.size + 1 < w4.heap.size + 1 + 1 := (by omega)); (try have : w3.heap.size + 1 + 1 < w4.heap.size := (by omega)); (try have : w3.heap.size + 1 + 1 < w4.heap.size + 1 := (by omega)); (try have : w3.heap.size + 1 + 1 < w4.heap.size + 1 + 1 := (by omega))
                have hb4w : Below wr.heap.size wr w4 := by repeat (first | exact Below.refl _ _ | refine below_dN ?_ _ | refine Below.drew ?_ | refine Below.alloc ?_ (by first | omega | (simp; done) | (simp; omega)) _ | refine Below.setCell ?_ (by first | omega | (simp; done) | (simp; omega)) _ | refine below_step (by assumption) (by first | omega | (simp; done) | (simp; omega)) ?_)
                go_wp2
                refine wp_region_aft (by kernel_rfl) (by kernel_rfl) (by (try simp); exact rfl) ?_; intro haft; (repeat (go_big_quiet_step ((first | (go_at_call 65; exact aft_of (K5.out _)) | (go_at_call 18; exact aft_of (K6.out _)))))); refine wpQuiet_nil ?_; intro w7 hwx; have hb7 := aft_below hwx; clear hwx; obtain ⟨hc7, hf7, hz7, hlt7, hle7⟩ := cellsIf hb7 (by (try simp); exact rfl); (try have : w.heap.size < w7.heap.size := (by omega)); (try have : w.heap.size < w7.heap.size + 1 := (by omega)); (try have : w.heap.size < w7.heap.size + 1 + 1 := (by omega)); (try have : w.heap.size + 1 < w7.heap.size := (by omega)); (try have : w.heap.size + 1 < w7.heap.size + 1 := (by omega)); (try have : w.heap.size + 1 < w7.heap.size + 1 + 1 := (by omega)); (try have : w.heap.size + 1 + 1 < w7.heap.size := (by omega)); (try have : w.heap.size + 1 + 1 < w7.heap.size + 1 := (by omega)); (try have : w.heap.size + 1 + 1 < w7.heap.size + 1 + 1 := (by omega)); (try have : w1.heap.size < w7.heap.size := (by omega)); (try have : w1.heap.size < w7.heap.size + 1 := (by omega)); (try have : w1.heap.size < w7.heap.size + 1 + 1 := (by omega)); (try have : w1.heap.size + 1 < w7.heap.size := (by omega)); (try have : w1.heap.size + 1 < w7.heap.size + 1 := (by omega)); (try have : w1.heap.size + 1 < w7.heap.size + 1 + 1 := (by omega)); (try have : w1.heap.size + 1 + 1 < w7.heap.size := (by omega)); (try have : w1.heap.size + 1 + 1 < w7.heap.size + 1 := (by omega)); (try have : w1.heap.size + 1 + 1 < w7.heap.size + 1 + 1 := (by omega)); (try have : w2.heap.size < w7.heap.size := (by omega)); (try have : w2.heap.size < w7.heap.size + 1 := (by omega)); (try have : w2.heap.size < w7.heap.size + 1 + 1 := (by omega)); (try have : w2.heap.size + 1 < w7.heap.size := (by omega)); (try have : w2.heap.size + 1 < w7.heap.size + 1 := (by omega)); (try have : w2.heap.size + 1 < w7.heap.size + 1 + 1 := (by omega)); (try have : w2.heap.size + 1 + 1 < w7.heap.size := (by omega)); (try have : w2.heap.size + 1 + 1 < w7.heap.size + 1 := (by omega)); (try have : w2.heap.size + 1 + 1 < w7.heap.size + 1 + 1 := (by omega)); (try have : w3.heap.size < w7.heap.size := (by omega)); (try have : w3.heap.size < w7.heap.size + 1 := (by omega)); (try have : w3.heap.size < w7.heap.size + 1 + 1 := (by omega)); (try have : w3.heap.size + 1 < w7.heap.size := (by omega)); (try have : w3.heap.size + 1 < w7.heap.size + 1 := (by omega)); (try have : w3.heap.size + 1 < w7.heap.size + 1 + 1 := (by omega)); (try have : w3.heap.size + 1 + 1 < w7.heap.size := (by omega)); (try have : w3.heap.size + 1 + 1 < w7.heap.size + 1 := (by omega)); (try have : w3.heap.size + 1 + 1 < w7.heap.size + 1 + 1 := (by omega)); (try have : w4.heap.size < w7.heap.size := (by omega)); (try have : w4.heap.size < w7.heap.size + 1 := (by omega)); (try have : w4.heap.size < w7.heap.size + 1 + 1 := (by omega)); (try have : w4.heap.size + 1 < w7.heap.size := (by omega)); (try have : w4.heap.size + 1 < w7.heap.size + 1 := (by omega)); (try have : w4.heap.size + 1 < w7.heap.size + 1 + 1 := (by omega)); (try have : w4.heap.size + 1 + 1 < w7.heap.size := (by omega)); (try have : w4.heap.size + 1 + 1 < w7.heap.size + 1 := (by omega)); (try have : w4.heap.size + 1 + 1 < w7.heap.size + 1 + 1 := (by omega)); (try have : w5.heap.size < w7.heap.size := (by omega)); (try have : w5.heap.size < w7.heap.size + 1 := (by omega)); (try have : w5.heap.size < w7.heap.size + 1 + 1 := (by omega)); (try have : w5.heap.size + 1 < w7.heap.size := (by omega)); (try have : w5.heap.size + 1 < w7.heap.size + 1 := (by omega)); (try have : w5.heap.size + 1 < w7.heap.size + 1 + 1 := (by omega)); (try have : w5.heap.size + 1 + 1 < w7.heap.size := (by omega)); (try have : w5.heap.size + 1 + 1 < w7.heap.size + 1 := (by omega)); (try have : w5.heap.size + 1 + 1 < w7.heap.size + 1 + 1 := (by omega)); (try have : w6.heap.size < w7.heap.size := (by omega)); (try have : w6.heap.size < w7.heap.size + 1 := (by omega)); (try have : w6.heap.size < w7.heap.size + 1 + 1 := (by omega)); (try have : w6.heap.size + 1 < w7.heap.size := (by omega)); (try have : w6.heap.size + 1 < w7.heap.size + 1 := (by omega)); (try have : w6.heap.size + 1 < w7.heap.size + 1 + 1 := (by omega)); (try have : w6.heap.size + 1 + 1 < w7.heap.size := (by omega)); (try have : w6.heap.size + 1 + 1 < w7.heap.size + 1 := (by omega)); (try have : w6.heap.size + 1 + 1 < w7.heap.size + 1 + 1 := (by omega)); clear haft
                have hb74 : Below wr.heap.size wr w7 := by repeat (first | exact Below.refl _ _ | refine below_dN ?_ _ | refine Below.drew ?_ | refine Below.alloc ?_ (by first | omega | (simp; done) | (simp; omega)) _ | refine Below.setCell ?_ (by first | omega | (simp; done) | (simp; omega)) _ | refine below_step (by assumption) (by first | omega | (simp; done) | (simp; omega)) ?_)
                have hbw7 := hbx.trans (hb74.mono hbxz)
                by_cases q : 0 < C
                · have q1 : decide (0 < C) = true := by simpa using q
                  have Hr := Lib.hid (vld_over hlt (HO.out.trans q1))
                  go_wp2
                  go_ret
                  exact ⟨bool_ret Hr.out.symm, hbw7⟩
                · have q1 : decide (0 < C) = false := by simpa using q
                  have Hg := Lib.hid (HO.out.trans q1)
                  go_wp2
                  exact ⟨⟨o + 1, by omega, by go_num, (by rw [anyB_succ, HB.out, Hg.out]; rfl), hbw7⟩, by simp [intOf]; omega⟩
              · have Hr := Lib.hid (vld_over hlt (HO.out.trans (by simp [h0])))
                have He := Lib.hid (errV_ne h0)
                simp only [He.out] at k4
                clear h0
                go_wp2_with fail; refine (k4 _ (by repeat (first | exact Below.refl _ _ | refine below_dN ?_ _ | refine Below.drew ?_ | refine Below.alloc ?_ (by first | omega | (simp; done) | (simp; omega)) _ | refine Below.setCell ?_ (by first | omega | (simp; done) | (simp; omega)) _ | refine below_step (by assumption) (by first | omega | (simp; done) | (simp; omega)) ?_))).mono ?_; rintro e w4 ⟨rfl, hb4⟩; obtain ⟨hc4, hf4, hz4, hlt4, hle4⟩ := cellsIf hb4 (by (try simp); exact rfl); (try have : w.heap.size < w4.heap.size := (by omega)); (try have : w.heap.size < w4.heap.size + 1 := (by omega)); (try have : w.heap.size < w4.heap.size + 1 + 1 := (by omega)); (try have : w.heap.size + 1 < w4.heap.size := (by omega)); (try have : w.heap.size + 1 < w4.heap.size + 1 := (by omega)); (try have : w.heap.size + 1 < w4.heap.size + 1 + 1 := (by omega)); (try have : w.heap.size + 1 + 1 < w4.heap.size := (by omega)); (try have : w.heap.size + 1 + 1 < w4.heap.size + 1 := (by omega)); (try have : w.heap.size + 1 + 1 < w4.heap.size + 1 + 1 := (by omega)); (try have : w1.heap.size < w4.heap.size := (by omega)); (try have : w1.heap.size < w4.heap.size + 1 := (by omega)); (try have : w1.heap.size < w4.heap.size + 1 + 1 := (by omega)); (try have : w1.heap.size + 1 < w4.heap.size := (by omega)); (try have : w1.heap.size + 1 < w4.heap.size + 1 := (by omega)); (try have : w1.heap.size + 1 < w4.heap.size + 1 + 1 := (by omega)); (try have : w1.heap.size + 1 + 1 < w4.heap.size := (by omega)); (try have : w1.heap.size + 1 + 1 < w4.heap.size + 1 := (by omega)); (try have : w1.heap.size + 1 + 1 < w4.heap.size + 1 + 1 := (by omega)); (try have : w2.heap.size < w4.heap.size := (by omega)); (try have : w2.heap.size < w4.heap.size + 1 := (by omega)); (try have : w2.heap.size < w4.heap.size + 1 + 1 := (by omega)); (try have : w2.heap.size + 1 < w4.heap.size := (by omega)); (try have : w2.heap.size + 1 < w4.heap.size + 1 := (by omega)); (try have : w2.heap.size + 1 < w4.heap.size + 1 + 1 := (by omega)); (try have : w2.heap.size + 1 + 1 < w4.heap.size := (by omega)); (try have : w2.heap.size + 1 + 1 < w4.heap.size + 1 := (by omega)); (try have : w2.heap.size + 1 + 1 < w4.heap.size + 1 + 1 := (by omega)); (try have : w3.heap.size < w4.heap.size := (by omega)); (try have : w3.heap.size < w4.heap.size + 1 := (by omega)); (try have : w3.heap.size < w4.heap.size + 1 + 1 := (by omega)); (try have : w3.heap.size + 1 < w4.heap.size := (by omega)); (try have : w3.heap.size + 1 < w4.heap.size + 1 := (by omega)); (try have : w3.heap.size + 1 < w4.heap.size + 1 + 1 := (by omega)); (try have : w3.heap.size + 1 + 1 < w4.heap.size := (by omega)); (try have : w3.heap.size + 1 + 1 < w4.heap.size + 1 := (by omega)); (try have : w3.heap.size + 1 + 1 < w4.heap.size + 1 + 1 := (by omega))
                have hb4w : Below wr.heap.size wr w4 := by repeat (first | exact Below.refl _ _ | refine below_dN ?_ _ | refine Below.drew ?_ | refine Below.alloc ?_ (by first | omega | (simp; done) | (simp; omega)) _ | refine Below.setCell ?_ (by first | omega | (simp; done) | (simp; omega)) _ | refine below_step (by assumption) (by first | omega | (simp; done) | (simp; omega)) ?_)
                go_wp2
                go_quiet (fail)
                go_wp2
                go_ret
                exact ⟨bool_ret Hr.out.symm, by repeat (first | exact Below.refl _ _ | refine below_dN ?_ _ | refine Below.drew ?_ | refine Below.alloc ?_ (by first | omega | (simp; done) | (simp; omega)) _ | refine Below.setCell ?_ (by first | omega | (simp; done) | (simp; omega)) _ | refine below_step (by assumption) (by first | omega | (simp; done) | (simp; omega)) ?_)⟩
        · obtain rfl : o = costs.length := by omega
          have Hr := Lib.hid (vld_good H0.out HE.out H2.out HB.out)
          go_wp2
          go_ret
          exact ⟨bool_ret Hr.out.symm, hbel⟩

end Go.Proofs.Ytaomaopbdilmnaa
