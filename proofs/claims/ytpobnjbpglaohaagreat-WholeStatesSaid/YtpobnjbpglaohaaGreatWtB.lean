/- explore: relaxed, walked. -/
import Derived.Test.YtpobnjbpglaohaaGreatWgA
import Derived.Test.YtpobnjbpglaohaaGreatWtA
namespace Go.Proofs.YtpobnjbpglaohaaGreat
set_option linter.unusedSimpArgs false
set_option linter.unusedVariables false
open Go Go.RowKit
set_option linter.unusedVariables false

def chN (v : Value) : Nat := match v with | .bool true => 1 | _ => 0
def b2n (b : Bool) : Nat := if b then 1 else 0
theorem chN_b (b : Bool) : chN (.bool b) = b2n b := by cases b <;> rfl
/-- What shortest and relaxed return. -/
def TwoS (e : Ending) : Prop := ∃ A n c A' n' c', e = .returned (.tuple #[.slice A n c, .slice A' n' c'])

theorem set_far {w : World} {b c i j : Nat} {u : Value} (h : b ≠ c) : (w.setCell ⟨b, i, none⟩ u).cell? ⟨c, j, none⟩ = w.cell? ⟨c, j, none⟩ := World.cell?_setCell_other _ _ _ _ (by simp [h])
set_option maxRecDepth 20000 in
set_option maxHeartbeats 16000000 in
theorem relaxed_any {w : World} {base DB SB n AB C : Nat} {ds ss : List Int} (hA : ArcsAt w base AB n) (h : LabAt w base DB SB n ds ss) (hn : n ≤ 1000) (hb : base ≤ w.heap.size) :
    Calls Tryz.prog 66 #[.slice (some ⟨AB, 0, none⟩) n C, .slice (some ⟨DB, 0, none⟩) n n, .slice (some ⟨SB, 0, none⟩) n n] w fun e w' => TwoS e ∧ Below base w w' := by
  have HA := Lib.hid hA
  have HL := Lib.hid h
  clear hA h
  go_enter Tryz.func66, Tryz.ntmps66
  go_wp2_with fail
  go_loopw [8] (fun v8 wr => ∃ (ch : Bool) (ds ss : List Int), v8 = .bool ch ∧ Hid (LabAt wr base DB SB n ds ss) ∧ Hid (Below base w wr)) (fun v wr => 2 * potW wr DB SB n + chN v)
  case atStart => exact ⟨true, ds, ss, rfl, HL, Lib.hid (Below.refl _ _)⟩
  case round =>
    obtain ⟨ch, ds, ss, rfl, HLR, HE⟩ := hrel
    have hzr := HE.out.size
    obtain ⟨wt, rfl⟩ : ∃ wt : World, wt = wr := ⟨_, rfl⟩
    cases ch
    · go_wp2_with fail
      refine bodyPost_ret (v := .tuple #[.slice (some ⟨DB, 0, none⟩) n n, .slice (some ⟨SB, 0, none⟩) n n]) (by simp [results, Tryz.results66, go_sem, ↓IntWalk.iteOmega, *]) rfl ⟨⟨_, _, _, _, _, _, rfl⟩, HE.out⟩
    · have HP := Lib.hid (potW_at HLR.out)
      obtain ⟨P0, hP0⟩ : ∃ P0, P0 = pot n ds ss := ⟨_, rfl⟩
      have HP0 := Lib.hid hP0
      clear hP0
      go_wp2_with fail
      go_loopw [8, 18] (fun v8 v18 wr => ∃ (ch : Bool) (i : Nat) (ds ss : List Int), v8 = .bool ch ∧ v18 = .int .i64 i ∧ i ≤ n ∧ Hid (LabAt wr base DB SB n ds ss) ∧ Hid (Below base w wr) ∧ Hid (pot n ds ss + b2n ch ≤ P0)) (fun _ v _ => n - (RowKit.intOf v).toNat)
      case atStart => exact ⟨false, 0, ds, ss, rfl, rfl, Nat.zero_le _, HLR, HE, Lib.hid (by rw [← HP0.out]; exact Nat.le_refl _)⟩
      case round =>
        obtain ⟨ch, i, ds, ss, rfl, rfl, hi, HLM, HEM, HPM⟩ := hrel
        have hzm := HEM.out.size
        obtain ⟨wm, rfl⟩ : ∃ wm : World, wm = wr := ⟨_, rfl⟩
        by_cases hlt : i < n
        · obtain ⟨av, ha0, RA, m, RC, rfl, hm, hrow⟩ := (HA.out.keep HEM.out).2 i hlt
          have hABl := HA.out.1
          have HROW := Lib.hid hrow
          clear hrow
          go_wp2_with fail
          clear ha0
          go_loopw [8, 25] (fun v8 v25 wr => ∃ (ch : Bool) (k : Nat) (ds ss : List Int), v8 = .bool ch ∧ v25 = .int .i64 k ∧ k ≤ m ∧ Hid (LabAt wr base DB SB n ds ss) ∧ Hid (Below base wm wr) ∧ Hid (pot n ds ss + b2n ch ≤ P0)) (fun _ v _ => m - (RowKit.intOf v).toNat)
          case atStart => exact ⟨ch, 0, ds, ss, rfl, rfl, Nat.zero_le _, HLM, Lib.hid (Below.refl _ _), HPM⟩
          case round =>
            obtain ⟨ch, k, ds, ss, rfl, rfl, hk, HLK, HEK, HPK⟩ := hrel
            have hzk := HEK.out.size
            obtain ⟨wk, rfl⟩ : ∃ wk : World, wk = wr := ⟨_, rfl⟩
            by_cases hltk : k < m
            · obtain ⟨rb, off, rfl, hrb, hc⟩ := HROW.out (by omega)
              obtain ⟨f, wg, tn, a0, a1, a2, htn, hw0, hw1⟩ := hc k hltk
              have a0 := (HEK.out.cell (p := ⟨rb, _, none⟩) hrb).trans a0
              have a1 := (HEK.out.cell (p := ⟨rb, _, none⟩) hrb).trans a1
              have a2 := (HEK.out.cell (p := ⟨rb, _, none⟩) hrb).trans a2
              obtain ⟨hb1, hb2, hb3, hb4⟩ := HLK.out.blk
              clear hc
              go_upto_region 10 with fail
              obtain ⟨wA, hwA⟩ : ∃ W, W = wk.alloc (.cells #[.int .i64 f, .int .i64 tn, .int .i64 wg] 119) := ⟨_, rfl⟩
              rw [← hwA]
              have HXA := Lib.hid (show BxI wA wk.heap.size 119 #[.int .i64 f, .int .i64 tn, .int .i64 wg] by rw [hwA]; exact BxI.new _ _ _)
              have HBA := Lib.hid (show Below wk.heap.size wk wA by rw [hwA]; exact (Below.refl _ _).alloc (Nat.le_refl _) _)
              clear hwA a0 a1 a2
              obtain ⟨di, hdi⟩ : ∃ d, d = nth ds i := ⟨_, rfl⟩
              obtain ⟨si, hsi⟩ : ∃ d, d = nth ss i := ⟨_, rfl⟩
              obtain ⟨dt, hdt⟩ : ∃ d, d = nth ds tn := ⟨_, rfl⟩
              obtain ⟨st, hst⟩ : ∃ d, d = nth ss tn := ⟨_, rfl⟩
              obtain ⟨xx, hxx⟩ : ∃ x, x = di + wg := ⟨_, rfl⟩
              obtain ⟨yy, hyy⟩ : ∃ y, y = si + 1 := ⟨_, rfl⟩
              have hld := HLK.out.lab.dr i hlt
              have hls := HLK.out.lab.sr i hlt
              have hlk := HLK.out.lab.slk
              rw [← hdi] at hld
              rw [← hsi] at hls
              have hwx : IntKind.i64.wrap (di + wg) = xx := by rw [hxx]; exact wrap_x hld.1 hld.2 hw0 hw1
              have hwy : IntKind.i64.wrap (si + 1) = yy := by rw [hyy]; exact wrap_y hn hls.1 hls.2 hlk.2
              have HXY := Lib.hid (show 0 ≤ xx ∧ (0 ≤ yy ∧ yy ≤ inf + slk n ds + 1) by omega)
              have HDT := Lib.hid hdt
              have HST := Lib.hid hst
              have c0 := HLK.out.dcell HBA.out hlt
              have c1 := HLK.out.scell HBA.out hlt
              have c2 := HLK.out.dcell HBA.out htn
              have c3 := HLK.out.scell HBA.out htn
              rw [← hdi] at c0
              rw [← hsi] at c1
              rw [← hdt] at c2
              rw [← hst] at c3
              have x1 := HXA.out.cell 1 _ rfl
              have x2 := HXA.out.cell 2 _ rfl
              have hxl := HXA.out.lt
              have hzA := HBA.out.size
              clear hdi hsi hdt hst hxx hyy hld hls hlk
              go_quiet (fail)
              go_upto_region 11 with fail
              clear hwx hwy c0 c1 c2 c3 x1 x2
              obtain ⟨wB, hwB⟩ : ∃ W, W = wA.drewN nq := ⟨_, rfl⟩
              rw [← hwB]
              have HBB := Lib.hid (show Below wk.heap.size wk wB by rw [hwB]; exact below_dN HBA.out nq)
              have HXB := Lib.hid (show BxI wB wk.heap.size 119 #[.int .i64 f, .int .i64 tn, .int .i64 wg] by rw [hwB]; exact HXA.out)
              have HLB := Lib.hid (HLK.out.up HBB.out)
              clear hwB
              have hzB := HBB.out.size
              have c0 := HLK.out.dcell HBB.out hlt
              have c2 := HLK.out.dcell HBB.out htn
              have c3 := HLK.out.scell HBB.out htn
              obtain ⟨di2, hdi2⟩ : ∃ d, d = nth ds i := ⟨_, rfl⟩
              rw [← hdi2] at c0
              rw [← HDT.out] at c2
              rw [← HST.out] at c3
              have c1 := HXB.out.cell 1 _ rfl
              have hxlB := HXB.out.lt
              clear hdi2
              have HSB := Lib.hid (show ∀ w' : World, Below wB.heap.size wB w' → w'.cell? ⟨wk.heap.size, 1, none⟩ = some (.int .i64 tn) from fun w' kb => (HXB.out.up kb).cell 1 _ rfl)
              by_cases h1 : di2 < 1125899906842624
              · have hd1 : decide (di2 < 1125899906842624) = true := decide_eq_true h1
                by_cases h2 : xx < dt
                · have hd2 : decide (xx < dt) = true := decide_eq_true h2
                  go_wp2_with fail
                  have HU := Lib.hid (HLB.out.lab.upd htn HXY.out.1 HXY.out.2 (.inl (by rw [← HDT.out]; exact h2)))
                  clear c0 c1 c2 c3 hd1 hd2 h1 h2
                  refine wp_region_G 11 (fun w' => w'.cell? ⟨wk.heap.size, 1, none⟩ = some (.int .i64 tn)) (by kernel_rfl) (HSB.out _ (by repeat (first | exact Below.refl _ _ | refine below_dN ?_ _ | refine Below.drew ?_ | refine Below.alloc ?_ (by first | omega | (simp; done) | (simp; omega)) _ | refine Below.setCell ?_ (by first | omega | (simp; done) | (simp; omega)) _ | refine below_step (by assumption) (by first | omega | (simp; done) | (simp; omega)) ?_))) ?_
                  intro hG0
                  refine wpS1 0 hG0 ?_; intro hG1; clear hG0
                  refine wpS1 1 hG1 ?_; intro hG2; clear hG1
                  refine wpS2 2 hG2 ?_; intro hG3; clear hG2
                  refine wpS1 3 hG3 ?_; intro hG4; clear hG3
                  refine wpS1 4 hG4 ?_; intro hG5; clear hG4
                  refine wpS2 5 hG5 ?_; intro hG6; clear hG5
                  refine wpS1 6 hG6 ?_; intro hG7; clear hG6
                  refine wpS1 7 hG7 ?_; intro hG8; clear hG7
                  refine wpS1 8 hG8 ?_; intro hG9; clear hG8
                  refine wpAnyG_ready (rs := [9]) (by kernel_rfl) (by simp) (AllG.cons rfl hG9 (fun K hK => ?_) AllG.nil)
                  (refine step_store1 (by rfl) 3 _ _ (by rfl) DB tn (.int .i64 xx) rfl (by rfl) (by rfl) (there_own (HLB.out.up (by repeat (first | exact Below.refl _ _ | refine below_dN ?_ _ | refine Below.drew ?_ | refine Below.alloc ?_ (by first | omega | (simp; done) | (simp; omega)) _ | refine Below.setCell ?_ (by first | omega | (simp; done) | (simp; omega)) _ | refine below_step (by assumption) (by first | omega | (simp; done) | (simp; omega)) ?_))).od (by omega)) (by kernel_rfl) rfl ?_; intro wC HWC; have HSW := Lib.hid (show wC.cell? ⟨wk.heap.size, 1, none⟩ = some (.int .i64 tn) by rw [HWC.out, set_far]; exact HSB.out _ (by repeat (first | exact Below.refl _ _ | refine below_dN ?_ _ | refine Below.drew ?_ | refine Below.alloc ?_ (by first | omega | (simp; done) | (simp; omega)) _ | refine Below.setCell ?_ (by first | omega | (simp; done) | (simp; omega)) _ | refine below_step (by assumption) (by first | omega | (simp; done) | (simp; omega)) ?_)); omega))
                  refine hK.out _ _ (Or.inr HSW.out) (fun hG10 => wpN ?_); clear hK hG9
                  refine wpS1 10 hG10 ?_; intro hG11; clear hG10
                  refine wpAnyG_ready (rs := [11]) (by kernel_rfl) (by simp) (AllG.cons rfl hG11 (fun K hK => ?_) AllG.nil)
                  (refine step_store1 (by rfl) 3 _ _ (by rfl) SB tn (.int .i64 yy) rfl (by rfl) (by rfl) (by rw [HWC.out]; exact there_set (there_own (HLB.out.up (show Below wB.heap.size wB wB.drew by repeat (first | exact Below.refl _ _ | refine below_dN ?_ _ | refine Below.drew ?_ | refine Below.alloc ?_ (by first | omega | (simp; done) | (simp; omega)) _ | refine Below.setCell ?_ (by first | omega | (simp; done) | (simp; omega)) _ | refine below_step (by assumption) (by first | omega | (simp; done) | (simp; omega)) ?_))).os (by omega))) (by kernel_rfl) rfl ?_; intro wD HWD)
                  refine hK.out _ _ (Or.inl rfl) (fun hG12 => wpN ?_); clear hK hG11
                  refine wpAnyG_done (by kernel_rfl) ?_ _; clear hG12
                  have HLD := Lib.hid (show LabAt wD base DB SB n (ds.set tn xx) (ss.set tn yy) by
                    rw [HWD.out, HWC.out]
                    exact (HLB.out.up (show Below wB.heap.size wB wB.drew by repeat (first | exact Below.refl _ _ | refine below_dN ?_ _ | refine Below.drew ?_ | refine Below.alloc ?_ (by first | omega | (simp; done) | (simp; omega)) _ | refine Below.setCell ?_ (by first | omega | (simp; done) | (simp; omega)) _ | refine below_step (by assumption) (by first | omega | (simp; done) | (simp; omega)) ?_))).put HU.out.1)
                  have HED := Lib.hid (show Below base wm wD by
                    rw [HWD.out, HWC.out]
                    exact ((((HEK.out.trans (HBB.out.mono (by omega))).drew).setCell (p := ⟨DB, tn, none⟩) hb1 _)).setCell (p := ⟨SB, tn, none⟩) hb3 _)
                  go_wp2_with fail
                  go_roundw
                  case rel => exact ⟨true, k + 1, ds.set tn xx, ss.set tn yy, rfl, rfl, by omega, HLD, HED, Lib.hid (by have h1 := HU.out.2.1; have h2 := HPK.out; cases ch <;> simp [b2n] at * <;> omega)⟩
                  case measure => simp [RowKit.intOf]; omega
                · have hd2 : decide (xx < dt) = false := decide_eq_false h2
                  by_cases h3 : xx = dt
                  · subst h3
                    have hd3 : (xx == xx) = true := by simp
                    by_cases h4 : yy < st
                    · have hd4 : decide (yy < st) = true := decide_eq_true h4
                      go_wp2_with fail
                      have HU := Lib.hid (HLB.out.lab.upd htn HXY.out.1 HXY.out.2 (.inr ⟨by rw [← HDT.out], by rw [← HST.out]; exact h4⟩))
                      clear c0 c1 c2 c3 hd1 hd2 hd3 hd4 h1 h2 h4
                      refine wp_region_G 11 (fun w' => w'.cell? ⟨wk.heap.size, 1, none⟩ = some (.int .i64 tn)) (by kernel_rfl) (HSB.out _ (by repeat (first | exact Below.refl _ _ | refine below_dN ?_ _ | refine Below.drew ?_ | refine Below.alloc ?_ (by first | omega | (simp; done) | (simp; omega)) _ | refine Below.setCell ?_ (by first | omega | (simp; done) | (simp; omega)) _ | refine below_step (by assumption) (by first | omega | (simp; done) | (simp; omega)) ?_))) ?_
                      intro hG0
                      refine wpS1 0 hG0 ?_; intro hG1; clear hG0
                      refine wpS1 1 hG1 ?_; intro hG2; clear hG1
                      refine wpS2 2 hG2 ?_; intro hG3; clear hG2
                      refine wpS1 3 hG3 ?_; intro hG4; clear hG3
                      refine wpS1 4 hG4 ?_; intro hG5; clear hG4
                      refine wpS2 5 hG5 ?_; intro hG6; clear hG5
                      refine wpS1 6 hG6 ?_; intro hG7; clear hG6
                      refine wpS1 7 hG7 ?_; intro hG8; clear hG7
                      refine wpS1 8 hG8 ?_; intro hG9; clear hG8
                      refine wpAnyG_ready (rs := [9]) (by kernel_rfl) (by simp) (AllG.cons rfl hG9 (fun K hK => ?_) AllG.nil)
                      (refine step_store1 (by rfl) 3 _ _ (by rfl) DB tn (.int .i64 xx) rfl (by rfl) (by rfl) (there_own (HLB.out.up (by repeat (first | exact Below.refl _ _ | refine below_dN ?_ _ | refine Below.drew ?_ | refine Below.alloc ?_ (by first | omega | (simp; done) | (simp; omega)) _ | refine Below.setCell ?_ (by first | omega | (simp; done) | (simp; omega)) _ | refine below_step (by assumption) (by first | omega | (simp; done) | (simp; omega)) ?_))).od (by omega)) (by kernel_rfl) rfl ?_; intro wC HWC; have HSW := Lib.hid (show wC.cell? ⟨wk.heap.size, 1, none⟩ = some (.int .i64 tn) by rw [HWC.out, set_far]; exact HSB.out _ (by repeat (first | exact Below.refl _ _ | refine below_dN ?_ _ | refine Below.drew ?_ | refine Below.alloc ?_ (by first | omega | (simp; done) | (simp; omega)) _ | refine Below.setCell ?_ (by first | omega | (simp; done) | (simp; omega)) _ | refine below_step (by assumption) (by first | omega | (simp; done) | (simp; omega)) ?_)); omega))
                      refine hK.out _ _ (Or.inr HSW.out) (fun hG10 => wpN ?_); clear hK hG9
                      refine wpS1 10 hG10 ?_; intro hG11; clear hG10
                      refine wpAnyG_ready (rs := [11]) (by kernel_rfl) (by simp) (AllG.cons rfl hG11 (fun K hK => ?_) AllG.nil)
                      (refine step_store1 (by rfl) 3 _ _ (by rfl) SB tn (.int .i64 yy) rfl (by rfl) (by rfl) (by rw [HWC.out]; exact there_set (there_own (HLB.out.up (show Below wB.heap.size wB wB.drew by repeat (first | exact Below.refl _ _ | refine below_dN ?_ _ | refine Below.drew ?_ | refine Below.alloc ?_ (by first | omega | (simp; done) | (simp; omega)) _ | refine Below.setCell ?_ (by first | omega | (simp; done) | (simp; omega)) _ | refine below_step (by assumption) (by first | omega | (simp; done) | (simp; omega)) ?_))).os (by omega))) (by kernel_rfl) rfl ?_; intro wD HWD)
                      refine hK.out _ _ (Or.inl rfl) (fun hG12 => wpN ?_); clear hK hG11
                      refine wpAnyG_done (by kernel_rfl) ?_ _; clear hG12
                      have HLD := Lib.hid (show LabAt wD base DB SB n (ds.set tn xx) (ss.set tn yy) by
                        rw [HWD.out, HWC.out]
                        exact (HLB.out.up (show Below wB.heap.size wB wB.drew by repeat (first | exact Below.refl _ _ | refine below_dN ?_ _ | refine Below.drew ?_ | refine Below.alloc ?_ (by first | omega | (simp; done) | (simp; omega)) _ | refine Below.setCell ?_ (by first | omega | (simp; done) | (simp; omega)) _ | refine below_step (by assumption) (by first | omega | (simp; done) | (simp; omega)) ?_))).put HU.out.1)
                      have HED := Lib.hid (show Below base wm wD by
                        rw [HWD.out, HWC.out]
                        exact ((((HEK.out.trans (HBB.out.mono (by omega))).drew).setCell (p := ⟨DB, tn, none⟩) hb1 _)).setCell (p := ⟨SB, tn, none⟩) hb3 _)
                      go_wp2_with fail
                      go_roundw
                      case rel => exact ⟨true, k + 1, ds.set tn xx, ss.set tn yy, rfl, rfl, by omega, HLD, HED, Lib.hid (by have h1 := HU.out.2.1; have h2 := HPK.out; cases ch <;> simp [b2n] at * <;> omega)⟩
                      case measure => simp [RowKit.intOf]; omega
                    · have hd4 : decide (yy < st) = false := decide_eq_false h4
                      go_wp2_with fail
                      go_roundw
                      case rel => exact ⟨ch, k + 1, ds, ss, rfl, rfl, by omega, HLB, Lib.hid (HEK.out.trans (HBB.out.mono (by omega))), HPK⟩
                      case measure => simp [RowKit.intOf]; omega
                  · have hd3 : (xx == dt) = false := by rw [beq_eq_false_iff_ne]; exact h3
                    go_wp2_with fail
                    go_roundw
                    case rel => exact ⟨ch, k + 1, ds, ss, rfl, rfl, by omega, HLB, Lib.hid (HEK.out.trans (HBB.out.mono (by omega))), HPK⟩
                    case measure => simp [RowKit.intOf]; omega
              · have hd1 : decide (di2 < 1125899906842624) = false := decide_eq_false h1
                go_wp2_with fail
                go_roundw
                case rel => exact ⟨ch, k + 1, ds, ss, rfl, rfl, by omega, HLB, Lib.hid (HEK.out.trans (HBB.out.mono (by omega))), HPK⟩
                case measure => simp [RowKit.intOf]; omega
            · obtain rfl : k = m := by omega
              go_wp2_with fail
              go_roundw
              case rel => exact ⟨ch, i + 1, ds, ss, rfl, rfl, by omega, HLK, Lib.hid (HEM.out.trans HEK.out), HPK⟩
              case measure => simp [RowKit.intOf]; omega
        · obtain rfl : i = n := by omega
          go_wp2_with fail
          go_roundw
          case rel => exact ⟨ch, ds, ss, rfl, HLM, HEM⟩
          case measure =>
            rw [HP.out, potW_at HLM.out, chN_b, chN_b]
            have h1 := HPM.out
            have h2 := HP0.out
            cases ch <;> simp [b2n] at * <;> omega
end Go.Proofs.YtpobnjbpglaohaaGreat
