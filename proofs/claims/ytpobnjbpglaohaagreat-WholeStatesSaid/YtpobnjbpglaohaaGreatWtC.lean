/- explore: shortest, walked. -/
import Derived.Test.YtpobnjbpglaohaaGreatWgA
import Derived.Test.YtpobnjbpglaohaaGreatWtB
import Derived.Test.YtpobnjbpglaohaaGreatWrF
import Derived.Deep.CutBlock
namespace Go.Proofs.YtpobnjbpglaohaaGreat
set_option linter.unusedSimpArgs false
set_option linter.unusedVariables false
open Go Go.RowKit
set_option linter.unusedVariables false

theorem QuL.far {w w' : World} {base Q N n : Nat} {c : Nat → Prop} (h : QuL w base Q N n) (k : Kb c w w') (hc : ∀ b, c b → b < base) : QuL w' base Q N n := by
  obtain ⟨HA, HC, nx, es, h1, h2⟩ := h
  exact ⟨HA, HC, nx, es, h1, { h2 with box := h2.box.kb k (fun e => by have := hc _ e; have := h2.ge; omega), own := own_kb1 h2.own k (fun b hb e => by have := hc _ e; have := (h2.own.lt b hb).1; omega) }⟩
def lenV (v : Value) : Nat := match v with | .slice _ n _ => n | _ => 0
def lenW (w : World) (Q : Nat) : Nat := lenV ((w.cell? ⟨Q, 0, none⟩).getD undef)
theorem QuL.len {w : World} {base Q N n : Nat} (h : QuL w base Q N n) : lenW w Q = n := by
  obtain ⟨HA, HC, nx, es, h1, h2⟩ := h
  unfold lenW
  rw [h2.box.cell 0 _ rfl]
  exact h1
theorem QuL.qlt {w : World} {base Q N n : Nat} (h : QuL w base Q N n) : Q < w.heap.size ∧ base ≤ Q := by
  obtain ⟨HA, HC, nx, es, h1, h2⟩ := h
  exact ⟨h2.box.lt, h2.ge⟩
theorem all_inf {l : List Int} {n : Nat} (hl : l.length = n) (h : ∀ k, k < n → nth l k = inf) : l = List.replicate n inf := by
  apply List.ext_getElem
  · simp [hl]
  · intro i h1 h2
    have := h i (by omega)
    simpa [nth, List.getD, h1] using this
theorem ic_len (l : List Int) : (ic l).length = l.length := by unfold ic; simp
theorem LabAt.two {w : World} {DB SB j : Nat} {u v : Value} : Kb (fun b => b = DB ∨ b = SB) w ((w.setCell ⟨DB, j, none⟩ u).setCell ⟨SB, j, none⟩ v) :=
  ((kb_set (p := ⟨DB, j, none⟩) u).mono (fun b _ h => .inl h)).trans ((kb_set (p := ⟨SB, j, none⟩) v).mono (fun b _ h => .inr h))

set_option maxRecDepth 20000 in
set_option maxHeartbeats 16000000 in
theorem shortest_any {w : World} {n AB C : Nat} {fl : List Int} {FA : Option Addr} {FC : Nat} (hA : ArcsAt w w.heap.size AB n) (hn : n ≤ 1000) (hf : IntsAt w w.heap.size FA fl) (hfl : fl.length ≤ 1000) (hfr : ∀ k, k < fl.length → 0 ≤ nth fl k ∧ nth fl k < (n : Int)) :
    Calls Tryz.prog 51 #[.slice (some ⟨AB, 0, none⟩) n C, .slice FA fl.length FC] w fun e w' => TwoS e ∧ Below w.heap.size w w' := by
  have HA := Lib.hid hA
  have HF := Lib.hid hf
  have HFR := Lib.hid hfr
  have hABl := hA.1
  clear hA hf hfr
  go_enter Tryz.func51, Tryz.ntmps51
  go_upto_region 1 with fail
  go_cut [6, 7] (fun v6 v7 wx => ∃ DB SB, v6 = .slice (some ⟨DB, 0, none⟩) n n ∧ v7 = .slice (some ⟨SB, 0, none⟩) n n ∧ DB ≠ SB ∧ Hid (wx.ownsRow w.heap.size 3 1 (.slice (some ⟨DB, 0, none⟩) n n) n (ic (List.replicate n 0))) ∧ Hid (wx.ownsRow w.heap.size 3 1 (.slice (some ⟨SB, 0, none⟩) n n) n (ic (List.replicate n 0))) ∧ Hid (Below w.heap.size w wx))
  case first =>
    refine wp_region_G 2 (fun _ => True) (by kernel_rfl) (trivial) ?_
    intro hG0
    refine wpS1 0 hG0 ?_; intro hG1; clear hG0
    refine wpS1 1 hG1 ?_; intro hG2; clear hG1
    refine wpS1 3 hG2 ?_; intro hG3; clear hG2
    refine wpS1 4 hG3 ?_; intro hG4; clear hG3
    refine wpAnyG_ready (rs := [2, 5]) (by kernel_rfl) (by simp) (AllG.cons rfl hG4 (fun K hK => ?_) (AllG.cons rfl hG4 (fun K hK => ?_) AllG.nil))
    (have hl := make_int n (by omega) w.drew; go_simp; clear hl)
    refine hK.out _ _ (Or.inl rfl) (fun hG5 => wpN ?_); clear hK hG4
    refine wpS1 6 hG5 ?_; intro hG6; clear hG5
    refine wpAnyG_ready (rs := [5]) (by kernel_rfl) (by simp) (AllG.cons rfl hG6 (fun K hK => ?_) AllG.nil)
    (have hl := make_int n (by omega) (w.alloc (.cells (ic (List.replicate n 0)).toArray 3)).drew; go_simp; clear hl)
    refine hK.out _ _ (Or.inl rfl) (fun hG7 => wpN ?_); clear hK hG6
    refine wpS1 7 hG7 ?_; intro hG8; clear hG7
    refine wpAnyG_done (by kernel_rfl) ?_ _; clear hG8
    rotate_left
    (have hl := make_int n (by omega) w.drew; go_simp; clear hl)
    refine hK.out _ _ (Or.inr trivial) (fun hG5 => wpN ?_); clear hK hG4
    refine wpAnyG_ready (rs := [2]) (by kernel_rfl) (by simp) (AllG.cons rfl hG5 (fun K hK => ?_) AllG.nil)
    (have hl := make_int n (by omega) (w.alloc (.cells (ic (List.replicate n 0)).toArray 3)).drew; go_simp; clear hl)
    refine hK.out _ _ (Or.inl rfl) (fun hG6 => wpN ?_); clear hK hG5
    refine wpS1 6 hG6 ?_; intro hG7; clear hG6
    refine wpS1 7 hG7 ?_; intro hG8; clear hG7
    refine wpAnyG_done (by kernel_rfl) ?_ _; clear hG8
    rotate_left
    all_goals
      go_wp2
      go_meet
      have hA1 := own_box (B := w.heap.size) (BxI.new w 3 (ic (List.replicate n 0)).toArray) (Nat.le_refl _) (n := n) (by rw [ic_len]; simp) (by unfold maxLen; omega)
      have hA2 := own_box (B := w.heap.size) (BxI.new2 w (.cells (ic (List.replicate n 0)).toArray 3) 3 (ic (List.replicate n 0)).toArray) (by omega) (n := n) (by rw [ic_len]; simp) (by unfold maxLen; omega)
      have hA3 := own_kb1 hA1 (kb_alloc _ (.cells (ic (List.replicate n 0)).toArray 3) (fun _ => False)) (fun _ _ h => h)
      first
        | exact ⟨w.heap.size, w.heap.size + 1, rfl, rfl, by omega, Lib.hid hA3, Lib.hid hA2, Lib.hid (by repeat (first | exact Below.refl _ _ | refine below_dN ?_ _ | refine Below.drew ?_ | refine Below.alloc ?_ (by first | omega | (simp; done) | (simp; omega)) _ | refine Below.setCell ?_ (by first | omega | (simp; done) | (simp; omega)) _ | refine below_step (by assumption) (by first | omega | (simp; done) | (simp; omega)) ?_))⟩
        | exact ⟨w.heap.size + 1, w.heap.size, rfl, rfl, by omega, Lib.hid hA2, Lib.hid hA3, Lib.hid (by repeat (first | exact Below.refl _ _ | refine below_dN ?_ _ | refine Below.drew ?_ | refine Below.alloc ?_ (by first | omega | (simp; done) | (simp; omega)) _ | refine Below.setCell ?_ (by first | omega | (simp; done) | (simp; omega)) _ | refine below_step (by assumption) (by first | omega | (simp; done) | (simp; omega)) ?_))⟩
  case rest =>
  obtain ⟨DB, SB, rfl, rfl, hne, HD0, HS0, HB0⟩ := hcut
  obtain ⟨W1, rfl⟩ : ∃ W1, W1 = wc := ⟨_, rfl⟩
  have hDl := (HD0.out.lt DB rfl)
  have hSl := (HS0.out.lt SB rfl)
  have hz1 := HB0.out.size
  go_wp2_with fail
  go_loopw [28] (fun v28 wr => ∃ (i : Nat) (ds ss : List Int), v28 = .int .i64 i ∧ i ≤ n ∧ Hid (ds.length = n ∧ ss.length = n ∧ (∀ k, k < i → nth ds k = inf ∧ nth ss k = inf)) ∧ Hid (wr.ownsRow w.heap.size 3 1 (.slice (some ⟨DB, 0, none⟩) n n) n (ic ds)) ∧ Hid (wr.ownsRow w.heap.size 3 1 (.slice (some ⟨SB, 0, none⟩) n n) n (ic ss)) ∧ Hid (Below w.heap.size w wr) ∧ wr.heap.size = W1.heap.size) (fun v _ => n - (RowKit.intOf v).toNat)
  case atStart => exact ⟨0, _, _, rfl, Nat.zero_le _, Lib.hid ⟨by simp, by simp, fun k hk => absurd hk (Nat.not_lt_zero _)⟩, HD0, HS0, HB0, rfl⟩
  case round =>
    obtain ⟨i, ds, ss, rfl, hi, HLI, HDR, HSR, HE, hzr⟩ := hrel
    by_cases hlt : i < n
    · obtain ⟨wt, rfl⟩ : ∃ wt : World, wt = wr := ⟨_, rfl⟩
      go_wp2_with (first
        | (refine wpList_store1 (by rfl) 3 _ _ (by rfl) DB i (.int .i64 1125899906842624) (by rfl) (by rfl) (by rfl) (there_own HDR.out (by omega)) (by kernel_rfl) rfl ?_; intro wA HWA)
        | (refine wpList_store1 (by rfl) 3 _ _ (by rfl) SB i (.int .i64 1125899906842624) (by rfl) (by rfl) (by rfl) (by rw [HWA.out]; exact there_set (there_own HSR.out (by omega))) (by kernel_rfl) rfl ?_; intro wB HWB))
      go_roundw
      case rel =>
        obtain ⟨l1, l2, l3⟩ := HLI.out
        have e1 : (ic ds).set i (.int .i64 inf) = ic (ds.set i inf) := by unfold ic; rw [List.map_set]
        have e2 : (ic ss).set i (.int .i64 inf) = ic (ss.set i inf) := by unfold ic; rw [List.map_set]
        refine ⟨i + 1, ds.set i inf, ss.set i inf, rfl, by omega, Lib.hid ⟨by rw [List.length_set]; exact l1, by rw [List.length_set]; exact l2, fun k hk => ?_⟩, Lib.hid ?_, Lib.hid ?_, Lib.hid ?_, ?_⟩
        · rw [nth_setW _ _ (by omega), nth_setW _ _ (by omega)]
          split
          · exact ⟨rfl, rfl⟩
          · exact l3 k (by omega)
        · rw [HWB.out, HWA.out, ← e1]
          exact own_kb1 (own_setAt2 HDR.out _) (kb_set (p := ⟨SB, i, none⟩) _) (fun b hb e => hne (by have e : b = SB := e; injection hb with hb; exact hb.trans e))
        · rw [HWB.out, HWA.out, ← e2]
          exact own_setAt2 (own_kb1 HSR.out (kb_set (p := ⟨DB, i, none⟩) _) (fun b hb e => hne (by have e : b = DB := e; injection hb with hb; exact e.symm.trans hb.symm))) _
        · rw [HWB.out, HWA.out]
          exact (HE.out.setCell (p := ⟨DB, i, none⟩) hDl.1 _).setCell (p := ⟨SB, i, none⟩) hSl.1 _
        · rw [HWB.out, HWA.out]
          simpa [World.setCell] using hzr
      case measure => simp [RowKit.intOf]; omega
    · obtain rfl : i = n := by omega
      have HLB := Lib.hid (show LabAt wr w.heap.size DB SB i (List.replicate i inf) (List.replicate i inf) from by
        obtain ⟨l1, l2, l3⟩ := HLI.out
        have e1 := all_inf l1 (fun k hk => (l3 k hk).1)
        have e2 := all_inf l2 (fun k hk => (l3 k hk).2)
        exact ⟨by rw [← e1]; exact HDR.out, by rw [← e2]; exact HSR.out, hne, Lab.init i⟩)
      obtain ⟨W2, rfl⟩ : ∃ W2, W2 = wr := ⟨_, rfl⟩
      have hzr1 : W1.heap.size ≤ W2.heap.size := by omega
      have hzr2 : W2.heap.size ≤ W1.heap.size := by omega
      clear hzr
      go_wp2_with fail
      refine (qnew_any W2).mono ?_
      rintro e w3 ⟨⟨Q, rfl, hq⟩, hb3⟩
      have HQ3 := Lib.hid (show QuL w3 W2.heap.size Q i 0 from ⟨none, 0, 0, [], rfl, hq i⟩)
      have HB3 := Lib.hid hb3
      have hz3 := hb3.size
      have HL3 := Lib.hid (HLB.out.up hb3)
      have HE3 := Lib.hid (HE.out.trans (hb3.mono (by omega)))
      clear hq hb3
      go_wp2_with fail
      go_loopw [41] (fun v41 wr => ∃ (j : Nat) (ds ss : List Int), v41 = .int .i64 j ∧ j ≤ fl.length ∧ Hid (LabAt wr w.heap.size DB SB i ds ss) ∧ Hid (QuL wr W2.heap.size Q i j) ∧ Hid (Below w.heap.size w wr) ∧ W2.heap.size ≤ wr.heap.size) (fun v _ => fl.length - (RowKit.intOf v).toNat)
      case atStart => exact ⟨0, _, _, rfl, Nat.zero_le _, HL3, HQ3, HE3, hz3⟩
      case round =>
        obtain ⟨j, ds, ss, rfl, hj, HLJ, HQJ, HEJ, hzj⟩ := hrel
        by_cases hltj : j < fl.length
        · obtain ⟨wt, rfl⟩ : ∃ wt : World, wt = wr := ⟨_, rfl⟩
          obtain ⟨fb, fo, rfl, hfb, hfc⟩ := HF.out.2 (by omega)
          have i0 := (HEJ.out.cell (p := ⟨fb, _, none⟩) hfb).trans (hfc j hltj)
          obtain ⟨x, hx⟩ : ∃ x : Nat, nth fl j = (x : Int) := ⟨(nth fl j).toNat, by have := HFR.out j hltj; omega⟩
          have hxn : x < i := by have := HFR.out j hltj; omega
          rw [hx] at i0
          have hrd := HLJ.out
          clear hfc hx
          go_wp2_with (first
            | (refine wpList_store1 (by rfl) 3 _ _ (by rfl) DB x (.int .i64 0) (by rfl) (by rfl) (by rfl) (there_own HLJ.out.od (by omega)) (by kernel_rfl) rfl ?_; intro wA HWA)
            | (refine wpList_store1 (by rfl) 3 _ _ (by rfl) SB x (.int .i64 0) (by rfl) (by rfl) (by rfl) (by rw [HWA.out]; exact there_set (there_own HLJ.out.os (by omega))) (by kernel_rfl) rfl ?_; intro wB HWB))
          have HLb := Lib.hid (show LabAt wB w.heap.size DB SB i (ds.set x 0) (ss.set x 0) by rw [HWB.out, HWA.out]; exact HLJ.out.put (HLJ.out.lab.src hxn))
          have HQb := Lib.hid (show QuL wB W2.heap.size Q i j by rw [HWB.out, HWA.out]; exact HQJ.out.far (LabAt.two) (fun b h => by rcases h with h | h <;> omega))
          have HEb := Lib.hid (show Below w.heap.size w wB by rw [HWB.out, HWA.out]; exact (HEJ.out.setCell (p := ⟨DB, x, none⟩) hDl.1 _).setCell (p := ⟨SB, x, none⟩) hSl.1 _)
          have hzb : W2.heap.size ≤ wB.heap.size := by rw [HWB.out, HWA.out]; simpa [World.setCell] using hzj
          refine (qpush_any HQb.out hzb 0 0 x hxn (by omega)).mono ?_
          rintro e w5 ⟨⟨rfl, hq5⟩, hb5⟩
          have HQ5 := Lib.hid hq5
          have HL5 := Lib.hid (HLb.out.low hb5 (by omega) (by omega) hzb)
          have HE5 := Lib.hid (HEb.out.trans (hb5.mono (by omega)))
          have hz5 : W2.heap.size ≤ w5.heap.size := Nat.le_trans hzb hb5.size
          clear hq5 hb5 i0 hrd
          go_wp2_with fail
          go_roundw
          case rel => exact ⟨j + 1, _, _, rfl, by omega, HL5, HQ5, HE5, hz5⟩
          case measure => simp [RowKit.intOf]; omega
        · obtain rfl : j = fl.length := by omega
          obtain ⟨W4, rfl⟩ : ∃ W4, W4 = wr := ⟨_, rfl⟩
          go_wp2_with fail
          go_loopw [57] (fun _ wr => ∃ (m : Nat) (ds ss : List Int), Hid (LabAt wr w.heap.size DB SB i ds ss) ∧ Hid (QuL wr W2.heap.size Q i m) ∧ Hid (Below w.heap.size w wr) ∧ W2.heap.size ≤ wr.heap.size) (fun _ wr => 2 * potW wr DB SB i + lenW wr Q)
          case atStart => exact ⟨fl.length, ds, ss, HLJ, HQJ, HEJ, hzj⟩
          case round =>
            obtain ⟨m, ds, ss, HLM, HQM, HEM, hzm⟩ := hrel
            obtain ⟨wt, rfl⟩ : ∃ wt : World, wt = wr := ⟨_, rfl⟩
            have KL := Lib.hid (show ∀ W, Below wt.heap.size wt W → Calls Tryz.prog 64 #[.pointer (some ⟨Q, 0, none⟩)] W fun e w' => e = .returned (.int .i64 (m : Nat)) ∧ Below W.heap.size W w' from fun W kb => by
              obtain ⟨HA, HC, nx, es, h1, h2⟩ := HQM.out
              have := qlen_any (h2.up kb)
              rw [h1] at this
              exact this)
            have HMM := Lib.hid (show 2 * potW wt DB SB i + lenW wt Q = 2 * pot i ds ss + m by rw [potW_at HLM.out, HQM.out.len])
            go_wp2_with fail
            refine (KL.out _ (by repeat (first | exact Below.refl _ _ | refine below_dN ?_ _ | refine Below.drew ?_ | refine Below.alloc ?_ (by first | omega | (simp; done) | (simp; omega)) _ | refine Below.setCell ?_ (by first | omega | (simp; done) | (simp; omega)) _ | refine below_step (by assumption) (by first | omega | (simp; done) | (simp; omega)) ?_))).mono ?_
            rintro e w6 ⟨rfl, hb6⟩
            have HB6 := Lib.hid (show Below wt.heap.size wt w6 from below_step hb6 (show wt.heap.size ≤ _ by simp) (show Below wt.heap.size wt _ by repeat (first | exact Below.refl _ _ | refine below_dN ?_ _ | refine Below.drew ?_ | refine Below.alloc ?_ (by first | omega | (simp; done) | (simp; omega)) _ | refine Below.setCell ?_ (by first | omega | (simp; done) | (simp; omega)) _ | refine below_step (by assumption) (by first | omega | (simp; done) | (simp; omega)) ?_)))
            have hz6 := HB6.out.size
            have HL6 := Lib.hid (HLM.out.up HB6.out)
            have HQ6 := Lib.hid (HQM.out.up HB6.out)
            have HE6 := Lib.hid (HEM.out.trans (HB6.out.mono HEM.out.size))
            clear hb6
            cases m with
            | zero =>
              go_wp2_with fail
              refine bodyPost_ret (v := .tuple #[.slice (some ⟨DB, 0, none⟩) i i, .slice (some ⟨SB, 0, none⟩) i i]) (by simp [results, Tryz.results51, go_sem, ↓IntWalk.iteOmega, *]) rfl ⟨⟨_, _, _, _, _, _, rfl⟩, HE6.out⟩
            | succ m =>
              have hd6 : decide ((0 : Int) < ((m + 1 : Nat) : Int)) = true := decide_eq_true (by omega)
              go_wp2_with fail
              refine (qpop_any HQ6.out (by omega)).mono ?_
              rintro e w7 ⟨⟨d, k, it, rfl, hit, hq7⟩, hb7⟩
              have HQ7 := Lib.hid hq7
              have HL7 := Lib.hid (HL6.out.low hb7 (by omega) (by omega) (by omega))
              have HE7 := Lib.hid (HE6.out.trans (hb7.mono (by omega)))
              have hz7 : W2.heap.size ≤ w7.heap.size := Nat.le_trans (by omega) hb7.size
              have c0 := HL7.out.dcell (Below.refl _ _) hit
              have c1 := HL7.out.scell (Below.refl _ _) hit
              have hld := HL7.out.lab.dr it hit
              have hls := HL7.out.lab.sr it hit
              have HSK := Lib.hid (HL7.out.lab.slk)
              obtain ⟨di, hdi⟩ : ∃ d, d = nth ds it := ⟨_, rfl⟩
              obtain ⟨si, hsi⟩ : ∃ d, d = nth ss it := ⟨_, rfl⟩
              rw [← hdi] at c0 hld
              rw [← hsi] at c1 hls
              have HLS := Lib.hid hls
              clear hq7 hb7 hd6 hdi hsi hls
              by_cases hdd : d = di
              · by_cases hss : k = si
                · subst hdd hss
                  obtain ⟨av, ha0, RA, rm, RC, rfl, hrm, hrow⟩ := (HA.out.keep HE7.out).2 it hit
                  have HROW := Lib.hid hrow
                  clear hrow
                  go_wp2_with fail
                  clear ha0 c0 c1
                  go_loopw [86] (fun v86 wr => ∃ (q m2 : Nat) (ds2 ss2 : List Int), v86 = .int .i64 q ∧ q ≤ rm ∧ Hid (LabAt wr w.heap.size DB SB i ds2 ss2) ∧ Hid (QuL wr W2.heap.size Q i m2) ∧ Hid (Below w.heap.size w7 wr) ∧ W2.heap.size ≤ wr.heap.size ∧ Hid (2 * pot i ds2 ss2 + m2 ≤ 2 * pot i ds ss + m) ∧ Hid (slk i ds ≤ slk i ds2)) (fun v _ => rm - (RowKit.intOf v).toNat)
                  case atStart => exact ⟨0, m, ds, ss, rfl, Nat.zero_le _, HL7, HQ7, Lib.hid (Below.refl _ _), hz7, Lib.hid (Nat.le_refl _), Lib.hid (Int.le_refl _)⟩
                  case round =>
                    obtain ⟨q, m2, ds2, ss2, rfl, hq, HLK, HQK, HEK, hzk, HPK, HSL⟩ := hrel
                    obtain ⟨wk, rfl⟩ : ∃ wk : World, wk = wr := ⟨_, rfl⟩
                    by_cases hltk : q < rm
                    · obtain ⟨rb, off, rfl, hrb, hc⟩ := HROW.out (by omega)
                      obtain ⟨f, wg, tn, a0, a1, a2, htn, hw0, hw1⟩ := hc q hltk
                      have a0 := (HEK.out.cell (p := ⟨rb, _, none⟩) hrb).trans a0
                      have a1 := (HEK.out.cell (p := ⟨rb, _, none⟩) hrb).trans a1
                      have a2 := (HEK.out.cell (p := ⟨rb, _, none⟩) hrb).trans a2
                      obtain ⟨hb1, hb2, hb3, hb4⟩ := HLK.out.blk
                      clear hc
                      obtain ⟨xx, hxx⟩ : ∃ x, x = d + wg := ⟨_, rfl⟩
                      obtain ⟨yy, hyy⟩ : ∃ y, y = k + 1 := ⟨_, rfl⟩
                      have hwx : IntKind.i64.wrap (d + wg) = xx := by rw [hxx]; exact wrap_x hld.1 hld.2 hw0 hw1
                      have hwy : IntKind.i64.wrap (k + 1) = yy := by rw [hyy]; exact wrap_y hn HLS.out.1 HLS.out.2 HSK.out.2
                      have HXY := Lib.hid (show 0 ≤ xx ∧ (0 ≤ yy ∧ yy ≤ inf + slk i ds2 + 1) by have h1 := HLS.out; have h2 := HSL.out; omega)
                      clear hxx hyy
                      go_upto_region 22 with fail
                      clear hwx hwy a0 a1 a2
                      obtain ⟨wB, hwB⟩ : ∃ W, W = wk.alloc (.cells #[.int .i64 f, .int .i64 tn, .int .i64 wg] 119) := ⟨_, rfl⟩
                      rw [← hwB]
                      have HXB := Lib.hid (show BxI wB wk.heap.size 119 #[.int .i64 f, .int .i64 tn, .int .i64 wg] by rw [hwB]; exact BxI.new _ _ _)
                      have HBB := Lib.hid (show Below wk.heap.size wk wB by rw [hwB]; exact (Below.refl _ _).alloc (Nat.le_refl _) _)
                      clear hwB
                      have HLB := Lib.hid (HLK.out.up HBB.out)
                      have HQB := Lib.hid (HQK.out.up HBB.out)
                      have hzB := HBB.out.size
                      have c2 := HLK.out.dcell HBB.out htn
                      have c3 := HLK.out.scell HBB.out htn
                      obtain ⟨dt, hdt⟩ : ∃ d, d = nth ds2 tn := ⟨_, rfl⟩
                      obtain ⟨st, hst⟩ : ∃ d, d = nth ss2 tn := ⟨_, rfl⟩
                      rw [← hdt] at c2
                      rw [← hst] at c3
                      have HDT := Lib.hid hdt
                      have HST := Lib.hid hst
                      have c1 := HXB.out.cell 1 _ rfl
                      have hxlB := HXB.out.lt
                      have HSB := Lib.hid (show ∀ w' : World, Below wB.heap.size wB w' → w'.cell? ⟨wk.heap.size, 1, none⟩ = some (.int .i64 tn) from fun w' kb => (HXB.out.up kb).cell 1 _ rfl)
                      clear hdt hst
                      by_cases h1 : dt < xx
                      · have hd1 : decide (dt < xx) = true := decide_eq_true h1
                        go_wp2_with fail
                        go_roundw
                        case rel => exact ⟨q + 1, m2, ds2, ss2, rfl, by omega, HLB, HQB, Lib.hid (HEK.out.trans (HBB.out.mono (by omega))), by omega, HPK, HSL⟩
                        case measure => simp [RowKit.intOf]; omega
                      · have hd1 : decide (dt < xx) = false := decide_eq_false h1
                        by_cases h2 : xx = dt
                        · subst h2
                          have hd2 : (xx == xx) = true := by simp
                          by_cases h3 : st ≤ yy
                          · have hd3 : decide (st ≤ yy) = true := decide_eq_true h3
                            go_wp2_with fail
                            go_roundw
                            case rel => exact ⟨q + 1, m2, ds2, ss2, rfl, by omega, HLB, HQB, Lib.hid (HEK.out.trans (HBB.out.mono (by omega))), by omega, HPK, HSL⟩
                            case measure => simp [RowKit.intOf]; omega
                          · have hd3 : decide (st ≤ yy) = false := decide_eq_false h3
                            have HU := Lib.hid (HLB.out.lab.upd htn HXY.out.1 HXY.out.2 (.inr ⟨by rw [← HDT.out], by rw [← HST.out]; omega⟩))
                            go_wp2_with fail
                            clear c2 c3 c1 hd1 hd2 hd3 h1 h3
                            refine wp_region_G 11 (fun w' => w'.cell? ⟨wk.heap.size, 1, none⟩ = some (.int .i64 tn)) (by kernel_rfl) (HSB.out _ (by repeat (first | exact Below.refl _ _ | refine below_dN ?_ _ | refine Below.drew ?_ | refine Below.alloc ?_ (by first | omega | (simp; done) | (simp; omega)) _ | refine Below.setCell ?_ (by first | omega | (simp; done) | (simp; omega)) _ | refine below_step (by assumption) (by first | omega | (simp; done) | (simp; omega)) ?_))) ?_
                            intro hG0
                            refine wpS1 0 hG0 ?_; intro hG1; clear hG0
                            refine wpS1 1 hG1 ?_; intro hG2; clear hG1
                            refine wpS2 2 hG2 ?_; intro hG3; clear hG2
                            refine wpS1 3 hG3 ?_; intro hG4; clear hG3
                            refine wpS1 4 hG4 ?_; intro hG5; clear hG4
                            refine wpS2 5 hG5 ?_; intro hG6; clear hG5
                            refine wpS1 6 hG6 ?_; intro hG7; clear hG6
                            refine wpS1 7 hG7 ?_; intro hG8; clear hG7
                            refine wpS1 8 hG8 ?_; intro hG9; clear hG8
                            refine wpAnyG_ready (rs := [9]) (by kernel_rfl) (by simp) (AllG.cons rfl hG9 (fun K hK => ?_) AllG.nil)
                            (refine step_store1 (by rfl) 3 _ _ (by rfl) DB tn (.int .i64 xx) rfl (by rfl) (by rfl) (there_own (HLB.out.up (by repeat (first | exact Below.refl _ _ | refine below_dN ?_ _ | refine Below.drew ?_ | refine Below.alloc ?_ (by first | omega | (simp; done) | (simp; omega)) _ | refine Below.setCell ?_ (by first | omega | (simp; done) | (simp; omega)) _ | refine below_step (by assumption) (by first | omega | (simp; done) | (simp; omega)) ?_))).od (by omega)) (by kernel_rfl) rfl ?_; intro wC HWC; have HSW := Lib.hid (show wC.cell? ⟨wk.heap.size, 1, none⟩ = some (.int .i64 tn) by rw [HWC.out, set_far]; exact HSB.out _ (by repeat (first | exact Below.refl _ _ | refine below_dN ?_ _ | refine Below.drew ?_ | refine Below.alloc ?_ (by first | omega | (simp; done) | (simp; omega)) _ | refine Below.setCell ?_ (by first | omega | (simp; done) | (simp; omega)) _ | refine below_step (by assumption) (by first | omega | (simp; done) | (simp; omega)) ?_)); omega))
                            refine hK.out _ _ (Or.inr HSW.out) (fun hG10 => wpN ?_); clear hK hG9
                            refine wpS1 10 hG10 ?_; intro hG11; clear hG10
                            refine wpAnyG_ready (rs := [11]) (by kernel_rfl) (by simp) (AllG.cons rfl hG11 (fun K hK => ?_) AllG.nil)
                            (refine step_store1 (by rfl) 3 _ _ (by rfl) SB tn (.int .i64 yy) rfl (by rfl) (by rfl) (by rw [HWC.out]; exact there_set (there_own (HLB.out.up (show Below wB.heap.size wB wB.drew by repeat (first | exact Below.refl _ _ | refine below_dN ?_ _ | refine Below.drew ?_ | refine Below.alloc ?_ (by first | omega | (simp; done) | (simp; omega)) _ | refine Below.setCell ?_ (by first | omega | (simp; done) | (simp; omega)) _ | refine below_step (by assumption) (by first | omega | (simp; done) | (simp; omega)) ?_))).os (by omega))) (by kernel_rfl) rfl ?_; intro wD HWD)
                            refine hK.out _ _ (Or.inl rfl) (fun hG12 => wpN ?_); clear hK hG11
                            refine wpAnyG_done (by kernel_rfl) ?_ _; clear hG12
                            have HLD := Lib.hid (show LabAt wD w.heap.size DB SB i (ds2.set tn xx) (ss2.set tn yy) by
                              rw [HWD.out, HWC.out]
                              exact (HLB.out.up (show Below wB.heap.size wB wB.drew by repeat (first | exact Below.refl _ _ | refine below_dN ?_ _ | refine Below.drew ?_ | refine Below.alloc ?_ (by first | omega | (simp; done) | (simp; omega)) _ | refine Below.setCell ?_ (by first | omega | (simp; done) | (simp; omega)) _ | refine below_step (by assumption) (by first | omega | (simp; done) | (simp; omega)) ?_))).put HU.out.1)
                            have HQD := Lib.hid (show QuL wD W2.heap.size Q i m2 by
                              rw [HWD.out, HWC.out]
                              exact (HQB.out.up (show Below wB.heap.size wB wB.drew by repeat (first | exact Below.refl _ _ | refine below_dN ?_ _ | refine Below.drew ?_ | refine Below.alloc ?_ (by first | omega | (simp; done) | (simp; omega)) _ | refine Below.setCell ?_ (by first | omega | (simp; done) | (simp; omega)) _ | refine below_step (by assumption) (by first | omega | (simp; done) | (simp; omega)) ?_))).far (LabAt.two) (fun b h => by rcases h with h | h <;> omega))
                            have HED := Lib.hid (show Below w.heap.size w7 wD by
                              rw [HWD.out, HWC.out]
                              exact ((((HEK.out.trans (HBB.out.mono (by omega))).drew).setCell (p := ⟨DB, tn, none⟩) hDl.1 _)).setCell (p := ⟨SB, tn, none⟩) hSl.1 _)
                            have hzD : W2.heap.size ≤ wD.heap.size := by rw [HWD.out, HWC.out]; simp [World.setCell]; omega
                            have x1 : wD.cell? ⟨wk.heap.size, 1, none⟩ = some (.int .i64 tn) := by rw [HWD.out, set_far]; exact HSW.out; omega
                            by_cases hm6 : m2 < 65536
                            · have KP := Lib.hid (qpush_any HQD.out hzD xx yy tn htn hm6)
                              go_wp2_with fail
                              refine KP.out.mono ?_
                              rintro e w9 ⟨⟨rfl, hq9⟩, hb9⟩
                              have HQ9 := Lib.hid hq9
                              have HL9 := Lib.hid (HLD.out.low hb9 (by omega) (by omega) hzD)
                              have HE9 := Lib.hid (HED.out.trans (hb9.mono (by omega)))
                              have hz9 : W2.heap.size ≤ w9.heap.size := Nat.le_trans hzD hb9.size
                              clear hq9 hb9 KP
                              go_wp2_with fail
                              go_roundw
                              case rel => exact ⟨q + 1, m2 + 1, _, _, rfl, by omega, HL9, HQ9, HE9, hz9, Lib.hid (by have h1 := HU.out.2.1; have h2 := HPK.out; omega), Lib.hid (Int.le_trans HSL.out HU.out.2.2)⟩
                              case measure => simp [RowKit.intOf]; omega
                            · have KP := Lib.hid (qfull_any HQD.out xx yy tn (by omega))
                              go_wp2_with fail
                              refine KP.out.mono ?_
                              rintro e w9 ⟨rfl, hb9⟩
                              have HL9 := Lib.hid (HLD.out.up hb9)
                              have HE9 := Lib.hid (HE7.out.trans (HED.out.trans (hb9.mono (by omega))))
                              have hz9 := hb9.size
                              clear hb9 KP
                              go_wp2_with fail
                              refine (relaxed_any (C := C) (HA.out.keep HE9.out) HL9.out hn (by omega)).mono ?_
                              rintro e w10 ⟨⟨A1, n1, c1, A2, n2, c2, rfl⟩, hb10⟩
                              have HB10 := Lib.hid (HE9.out.trans hb10)
                              clear hb10
                              go_wp2_with fail
                              refine bodyPost_ret (v := .tuple #[.slice A1 n1 c1, .slice A2 n2 c2]) (by simp [results, Tryz.results51, go_sem, ↓IntWalk.iteOmega, *]) rfl ⟨⟨_, _, _, _, _, _, rfl⟩, HB10.out⟩
                        · have hd2 : (xx == dt) = false := by rw [beq_eq_false_iff_ne]; exact h2
                          have HU := Lib.hid (HLB.out.lab.upd htn HXY.out.1 HXY.out.2 (.inl (by rw [← HDT.out]; omega)))
                          go_wp2_with fail
                          clear c2 c3 c1 hd1 hd2 h1 h2
                          refine wp_region_G 11 (fun w' => w'.cell? ⟨wk.heap.size, 1, none⟩ = some (.int .i64 tn)) (by kernel_rfl) (HSB.out _ (by repeat (first | exact Below.refl _ _ | refine below_dN ?_ _ | refine Below.drew ?_ | refine Below.alloc ?_ (by first | omega | (simp; done) | (simp; omega)) _ | refine Below.setCell ?_ (by first | omega | (simp; done) | (simp; omega)) _ | refine below_step (by assumption) (by first | omega | (simp; done) | (simp; omega)) ?_))) ?_
                          intro hG0
                          refine wpS1 0 hG0 ?_; intro hG1; clear hG0
                          refine wpS1 1 hG1 ?_; intro hG2; clear hG1
                          refine wpS2 2 hG2 ?_; intro hG3; clear hG2
                          refine wpS1 3 hG3 ?_; intro hG4; clear hG3
                          refine wpS1 4 hG4 ?_; intro hG5; clear hG4
                          refine wpS2 5 hG5 ?_; intro hG6; clear hG5
                          refine wpS1 6 hG6 ?_; intro hG7; clear hG6
                          refine wpS1 7 hG7 ?_; intro hG8; clear hG7
                          refine wpS1 8 hG8 ?_; intro hG9; clear hG8
                          refine wpAnyG_ready (rs := [9]) (by kernel_rfl) (by simp) (AllG.cons rfl hG9 (fun K hK => ?_) AllG.nil)
                          (refine step_store1 (by rfl) 3 _ _ (by rfl) DB tn (.int .i64 xx) rfl (by rfl) (by rfl) (there_own (HLB.out.up (by repeat (first | exact Below.refl _ _ | refine below_dN ?_ _ | refine Below.drew ?_ | refine Below.alloc ?_ (by first | omega | (simp; done) | (simp; omega)) _ | refine Below.setCell ?_ (by first | omega | (simp; done) | (simp; omega)) _ | refine below_step (by assumption) (by first | omega | (simp; done) | (simp; omega)) ?_))).od (by omega)) (by kernel_rfl) rfl ?_; intro wC HWC; have HSW := Lib.hid (show wC.cell? ⟨wk.heap.size, 1, none⟩ = some (.int .i64 tn) by rw [HWC.out, set_far]; exact HSB.out _ (by repeat (first | exact Below.refl _ _ | refine below_dN ?_ _ | refine Below.drew ?_ | refine Below.alloc ?_ (by first | omega | (simp; done) | (simp; omega)) _ | refine Below.setCell ?_ (by first | omega | (simp; done) | (simp; omega)) _ | refine below_step (by assumption) (by first | omega | (simp; done) | (simp; omega)) ?_)); omega))
                          refine hK.out _ _ (Or.inr HSW.out) (fun hG10 => wpN ?_); clear hK hG9
                          refine wpS1 10 hG10 ?_; intro hG11; clear hG10
                          refine wpAnyG_ready (rs := [11]) (by kernel_rfl) (by simp) (AllG.cons rfl hG11 (fun K hK => ?_) AllG.nil)
                          (refine step_store1 (by rfl) 3 _ _ (by rfl) SB tn (.int .i64 yy) rfl (by rfl) (by rfl) (by rw [HWC.out]; exact there_set (there_own (HLB.out.up (show Below wB.heap.size wB wB.drew by repeat (first | exact Below.refl _ _ | refine below_dN ?_ _ | refine Below.drew ?_ | refine Below.alloc ?_ (by first | omega | (simp; done) | (simp; omega)) _ | refine Below.setCell ?_ (by first | omega | (simp; done) | (simp; omega)) _ | refine below_step (by assumption) (by first | omega | (simp; done) | (simp; omega)) ?_))).os (by omega))) (by kernel_rfl) rfl ?_; intro wD HWD)
                          refine hK.out _ _ (Or.inl rfl) (fun hG12 => wpN ?_); clear hK hG11
                          refine wpAnyG_done (by kernel_rfl) ?_ _; clear hG12
                          have HLD := Lib.hid (show LabAt wD w.heap.size DB SB i (ds2.set tn xx) (ss2.set tn yy) by
                            rw [HWD.out, HWC.out]
                            exact (HLB.out.up (show Below wB.heap.size wB wB.drew by repeat (first | exact Below.refl _ _ | refine below_dN ?_ _ | refine Below.drew ?_ | refine Below.alloc ?_ (by first | omega | (simp; done) | (simp; omega)) _ | refine Below.setCell ?_ (by first | omega | (simp; done) | (simp; omega)) _ | refine below_step (by assumption) (by first | omega | (simp; done) | (simp; omega)) ?_))).put HU.out.1)
                          have HQD := Lib.hid (show QuL wD W2.heap.size Q i m2 by
                            rw [HWD.out, HWC.out]
                            exact (HQB.out.up (show Below wB.heap.size wB wB.drew by repeat (first | exact Below.refl _ _ | refine below_dN ?_ _ | refine Below.drew ?_ | refine Below.alloc ?_ (by first | omega | (simp; done) | (simp; omega)) _ | refine Below.setCell ?_ (by first | omega | (simp; done) | (simp; omega)) _ | refine below_step (by assumption) (by first | omega | (simp; done) | (simp; omega)) ?_))).far (LabAt.two) (fun b h => by rcases h with h | h <;> omega))
                          have HED := Lib.hid (show Below w.heap.size w7 wD by
                            rw [HWD.out, HWC.out]
                            exact ((((HEK.out.trans (HBB.out.mono (by omega))).drew).setCell (p := ⟨DB, tn, none⟩) hDl.1 _)).setCell (p := ⟨SB, tn, none⟩) hSl.1 _)
                          have hzD : W2.heap.size ≤ wD.heap.size := by rw [HWD.out, HWC.out]; simp [World.setCell]; omega
                          have x1 : wD.cell? ⟨wk.heap.size, 1, none⟩ = some (.int .i64 tn) := by rw [HWD.out, set_far]; exact HSW.out; omega
                          by_cases hm6 : m2 < 65536
                          · have KP := Lib.hid (qpush_any HQD.out hzD xx yy tn htn hm6)
                            go_wp2_with fail
                            refine KP.out.mono ?_
                            rintro e w9 ⟨⟨rfl, hq9⟩, hb9⟩
                            have HQ9 := Lib.hid hq9
                            have HL9 := Lib.hid (HLD.out.low hb9 (by omega) (by omega) hzD)
                            have HE9 := Lib.hid (HED.out.trans (hb9.mono (by omega)))
                            have hz9 : W2.heap.size ≤ w9.heap.size := Nat.le_trans hzD hb9.size
                            clear hq9 hb9 KP
                            go_wp2_with fail
                            go_roundw
                            case rel => exact ⟨q + 1, m2 + 1, _, _, rfl, by omega, HL9, HQ9, HE9, hz9, Lib.hid (by have h1 := HU.out.2.1; have h2 := HPK.out; omega), Lib.hid (Int.le_trans HSL.out HU.out.2.2)⟩
                            case measure => simp [RowKit.intOf]; omega
                          · have KP := Lib.hid (qfull_any HQD.out xx yy tn (by omega))
                            go_wp2_with fail
                            refine KP.out.mono ?_
                            rintro e w9 ⟨rfl, hb9⟩
                            have HL9 := Lib.hid (HLD.out.up hb9)
                            have HE9 := Lib.hid (HE7.out.trans (HED.out.trans (hb9.mono (by omega))))
                            have hz9 := hb9.size
                            clear hb9 KP
                            go_wp2_with fail
                            refine (relaxed_any (C := C) (HA.out.keep HE9.out) HL9.out hn (by omega)).mono ?_
                            rintro e w10 ⟨⟨A1, n1, c1, A2, n2, c2, rfl⟩, hb10⟩
                            have HB10 := Lib.hid (HE9.out.trans hb10)
                            clear hb10
                            go_wp2_with fail
                            refine bodyPost_ret (v := .tuple #[.slice A1 n1 c1, .slice A2 n2 c2]) (by simp [results, Tryz.results51, go_sem, ↓IntWalk.iteOmega, *]) rfl ⟨⟨_, _, _, _, _, _, rfl⟩, HB10.out⟩
                    · obtain rfl : q = rm := by omega
                      go_wp2_with fail
                      go_roundw
                      case rel => exact ⟨m2, ds2, ss2, HLK, HQK, Lib.hid (HE7.out.trans HEK.out), hzk⟩
                      case measure =>
                        rw [HMM.out, potW_at HLK.out, HQK.out.len]
                        have := HPK.out
                        omega
                · have hd7 : (k != si) = true := by simpa using hss
                  subst hdd
                  go_wp2_with fail
                  go_roundw
                  case rel => exact ⟨m, ds, ss, HL7, HQ7, HE7, hz7⟩
                  case measure =>
                    rw [HMM.out, potW_at HL7.out, HQ7.out.len]
                    omega
              · have hd7 : (d != di) = true := by simpa using hdd
                go_wp2_with fail
                go_roundw
                case rel => exact ⟨m, ds, ss, HL7, HQ7, HE7, hz7⟩
                case measure =>
                  rw [HMM.out, potW_at HL7.out, HQ7.out.len]
                  omega
end Go.Proofs.YtpobnjbpglaohaaGreat
