/- pack: Unpack, walked. -/
import Derived.Test.YtpobnjbpglaohaaGreatWgA
import Derived.Test.YtpobnjbpglaohaaGreatWpG
namespace Go.Proofs.YtpobnjbpglaohaaGreat
set_option linter.unusedSimpArgs false
set_option linter.unusedVariables false
open Go Go.RowKit
set_option linter.unusedVariables false

theorem ic_zero (N : Nat) : madeCells #[.int .i64 0] N = (ic (List.replicate N 0)).toArray := by
  apply Array.ext'
  unfold ic madeCells
  apply List.ext_getElem
  · simp
  · intro i h1 h2
    simp [Nat.mod_one]
theorem make_int (N : Nat) (hN : N ≤ 100000) (w : World) : (Instr.makeSlice 22 (.int .i64 (N : Int)) (.int .i64 (N : Int))).run Tryz.prog w = .ok (.slice (some ⟨w.heap.size, 0, none⟩) N N) (w.alloc (.cells (ic (List.replicate N 0)).toArray 3)) := by
  obtain ⟨i, hi, hz, hs, hb⟩ := info_parts (show (Tryz.prog.info? 3).map (fun i => (i.zero, i.size, i.bytes)) = some (some (.int .i64 0), 1, 8) by kernel_rfl)
  have h := run_make (P := Tryz.prog) w 22 3 i _ (show Tryz.prog.underlying 22 = some (.slice 3) by kernel_rfl) hi hz .i64 .i64 (N : Int) (N : Int) (by omega) (Int.le_refl _) (by rw [hb]; omega) (by omega)
  rw [Int.toNat_natCast, hs, Nat.mul_one] at h
  rw [← ic_zero]
  exact h
theorem ic_setW (l : List Int) (i : Nat) (v : Int) : (ic l).toArray.setIfInBounds i (.int .i64 v) = (ic (l.set i v)).toArray := by
  unfold ic
  simp [List.map_set]
/-- The first values of a state. -/
def frontL (s : List Int) (m j : Nat) : List Int := s.take j ++ List.replicate (m - j) 0
theorem front_set {s : List Int} {m j : Nat} (h : s.length = m) (hj : j < m) : (frontL s m j).set j (nth s j) = frontL s m (j + 1) := by
  unfold frontL
  have h1 : j < s.length := by omega
  rw [List.set_append_right _ _ (by rw [List.length_take]; omega), List.length_take, show j - min j s.length = 0 by omega, show m - j = (m - (j + 1)) + 1 by omega, List.replicate_succ, List.set_cons_zero, List.take_succ_eq_append_getElem h1, List.append_assoc]
  congr 1
  rw [List.singleton_append]
  congr 1
  unfold nth
  simp [List.getD, h1]
theorem front_len {s : List Int} {m j : Nat} (h : s.length = m) (hj : j ≤ m) : (frontL s m j).length = m := by
  unfold frontL
  simp
  omega
theorem front_all {s : List Int} {m : Nat} (h : s.length = m) : frontL s m m = s := by
  unfold frontL
  rw [Nat.sub_self, List.take_of_length_le (by omega)]
  simp
theorem u64C_set' (W : List Nat) (i v : Nat) : (u64C W).set i (.int .u64 (v : Nat)) = u64C (W.set i v) := by
  unfold u64C
  simp [List.map_set]
theorem u64C_at {W : List Nat} {i : Nat} (h : i < W.length) : (u64C W)[i]? = some (.int .u64 (wd W i : Nat)) := by
  unfold u64C wd
  simp [List.getD, h]
theorem u64C_len (W : List Nat) : (u64C W).length = W.length := by unfold u64C; simp
theorem ic_at {l : List Int} {i : Nat} (h : i < l.length) : (ic l).toArray[i]? = some (.int .i64 (nth l i)) := by
  unfold ic nth
  simp [List.getD, h]
theorem wds_row {w : World} {A : Option Addr} {W : List Nat} (h : RowX w w.heap.size A W.length (u64C W)) : WdsAt w A W := fun h0 => by
  obtain ⟨b, off, e, hb, hc⟩ := h h0
  exact ⟨b, off, e, hb, fun i hi => hc i _ (u64C_at hi)⟩

set_option maxRecDepth 20000 in
set_option maxHeartbeats 4000000 in
theorem unpack_any (F : List Fld) (n p : Nat) (bad : Nat → Prop) (s : List Int) (A : Option Addr) (c : Nat) (w : World) (hp : PkAt w bad p F n) (hF : FOk F n) (hs : RowX w w.heap.size A n (u64C (wdsOf F n s))) (hok : StOk F s) :
    Calls Tryz.prog 16 #[.pointer (some ⟨p, 0, none⟩), .slice A n c] w fun e w' => (∃ g, e = .returned (.tuple #[.slice (some ⟨g, 0, none⟩) F.length F.length, .nilIface]) ∧ w.heap.size ≤ g ∧ BxI w' g 3 (ic s).toArray) ∧ Below w.heap.size w w' := by
  obtain ⟨FA, FC, HP, hpb, hfc, hfl⟩ := hp
  have HFL := Lib.hid hfl
  have HPX := Lib.hid HP
  have HS := Lib.hid hs
  have HOK := Lib.hid hok
  have HF := Lib.hid hF
  have hn100 := hF.few
  have hlen := hF.len
  have hl := hok.1
  have hplt := HP.lt
  have c0 := HP.cell 0 _ rfl
  have c1 := HP.cell 1 _ rfl
  have Hmk := Lib.hid (make_int F.length (by omega))
  have HL := Lib.hid hl
  clear HP hfl hs hok hF hl
  have hmk := Hmk.out
  have KC := Lib.hid (fun W h => cloneU_any (u64C (wdsOf F n s)) n A c W h (by rw [u64C_len, wds_len, Nat.mul_one]) (by intro u hu; unfold u64C at hu; obtain ⟨x, _, rfl⟩ := List.mem_map.1 hu; rfl) (by omega))
  go_enter Tryz.func16, Tryz.ntmps16
  go_wp2_with fail
  refine (KC.out _ (HS.out.keep (show Below w.heap.size w _ by repeat (first | exact Below.refl _ _ | refine below_dN ?_ _ | refine Below.drew ?_ | refine Below.alloc ?_ (by first | omega | (simp; done) | (simp; omega)) _ | refine Below.setCell ?_ (by first | omega | (simp; done) | (simp; omega)) _ | refine below_step (by assumption) (by first | omega | (simp; done) | (simp; omega)) ?_)) (by simp))).mono ?_
  rintro e w1 ⟨⟨v, rfl, hown⟩, hb1⟩
  obtain ⟨A1, c1', rfl⟩ := own_shape hown
  have HOW := Lib.hid (show w1.ownsRow (w.heap.size + 1) 100 1 (.slice A1 n c1') n (u64C (wdsOf F n s)) from own_base hown (by simp))
  have HB1 := Lib.hid (show Below w.heap.size w w1 from below_step hb1 (show w.heap.size ≤ _ by simp) (show Below w.heap.size w _ by repeat (first | exact Below.refl _ _ | refine below_dN ?_ _ | refine Below.drew ?_ | refine Below.alloc ?_ (by first | omega | (simp; done) | (simp; omega)) _ | refine Below.setCell ?_ (by first | omega | (simp; done) | (simp; omega)) _ | refine below_step (by assumption) (by first | omega | (simp; done) | (simp; omega)) ?_)))
  have HX1 := Lib.hid (show BxI w1 w.heap.size 3 (ic (List.replicate F.length 0)).toArray from (BxI.new w _ _).up hb1)
  have c0 := (HPX.out.low HB1.out hplt).cell 0 _ rfl
  clear hown hb1 c1 hmk
  go_wp2_with fail
  go_loopw [36] (fun v36 wr => ∃ j : Nat, v36 = .int .i64 j ∧ j ≤ F.length ∧ Hid (BxI wr w.heap.size 3 (ic (frontL s F.length j)).toArray) ∧ Hid (wr.ownsRow (w.heap.size + 1) 100 1 (.slice A1 n c1') n (u64C (clrW (wdsOf F n s) (F.take j)))) ∧ Hid (Below w.heap.size w wr)) (fun v _ => F.length - (RowKit.intOf v).toNat)
  case atStart => exact ⟨0, rfl, Nat.zero_le _, HX1, HOW, HB1⟩
  case round =>
    obtain ⟨j, rfl, hj, HB, HO, HE⟩ := hrel
    clear c0
    by_cases hlt : j < F.length
    · obtain ⟨fb, fo, rfl, hfb, d0, d1, d2, d3⟩ := flds_at HFL.out HE.out hlt
      obtain ⟨fw, fb2, fwd, fsz, hf⟩ : ∃ a b c d, fld F j = ⟨a, b, c, d⟩ := ⟨_, _, _, _, rfl⟩
      have HFJ := Lib.hid hf
      rw [hf] at d0 d1 d2 d3
      dsimp only at d0 d1 d2 d3
      have hok := HF.out.ok _ (fld_mem hlt).1
      rw [hf] at hok
      obtain ⟨hw1, hw2, hw3, hw4⟩ := hok
      dsimp only at hw1 hw2 hw3 hw4
      clear hw3
      have HGV := Lib.hid (get_wds HF.out HOK.out hlt)
      have hv := HOK.out.2 j hlt
      rw [hf] at HGV hv
      dsimp only at HGV hv
      clear hf
      obtain ⟨x, hx⟩ : ∃ x : Int, nth s j = x := ⟨_, rfl⟩
      have HX := Lib.hid hx
      rw [hx] at HGV hv
      obtain ⟨hv1, hv2⟩ := hv
      clear hx
      have KG := Lib.hid (fun W h => get_any ⟨fw, fb2, fwd, fsz⟩ A (wdsOf F n s) c W ⟨hw2, hw4⟩ h (by rw [wds_len]; exact hw1) (wds_lt HF.out HOK.out fw) (by rw [wds_len]; omega))
      simp only [wds_len] at KG
      rw [HGV.out] at KG
      have KM := Lib.hid (fun W => mask_any ⟨fw, fb2, fwd, fsz⟩ W ⟨hw2, hw4⟩)
      dsimp only at KG KM
      go_wp2_with (first | (refine wpList_stores (by rfl) 92 _ _ (by rfl) wr.heap.size 0 [.int .i64 fw, .int .i64 fb2, .int .i64 fwd, .int .i64 fsz] (by rfl) (by rfl) (there_blk (heap_alloc_new _ _) (Nat.le_refl 4)) qsizeFl (four_v rfl rfl rfl rfl) ?_; intro wx HWX; have HBX := Lib.hid (show Below wr.heap.size wr wx by rw [HWX.out]; refine below_sets _ _ _ ?_ (Nat.le_refl _); repeat (first | exact Below.refl _ _ | refine below_dN ?_ _ | refine Below.drew ?_ | refine Below.alloc ?_ (by first | omega | (simp; done) | (simp; omega)) _ | refine Below.setCell ?_ (by first | omega | (simp; done) | (simp; omega)) _ | refine below_step (by assumption) (by first | omega | (simp; done) | (simp; omega)) ?_)); have HZ := Lib.hid (show BxI wx wr.heap.size 92 #[.int .i64 fw, .int .i64 fb2, .int .i64 fwd, .int .i64 fsz] by rw [HWX.out]; exact BxI.setAll (BxI.new _ _ _) rfl); have z0 := HZ.out.cell 0 _ rfl; have z1 := HZ.out.cell 1 _ rfl; have z2 := HZ.out.cell 2 _ rfl; have z3 := HZ.out.cell 3 _ rfl) | fail)
      have HEX := Lib.hid (HE.out.trans (HBX.out.mono HE.out.size))
      refine (KG.out _ (wds_row (by rw [wds_len]; exact HS.out.keep (HEX.out.trans ((show Below wx.heap.size wx _ by repeat (first | exact Below.refl _ _ | refine below_dN ?_ _ | refine Below.drew ?_ | refine Below.alloc ?_ (by first | omega | (simp; done) | (simp; omega)) _ | refine Below.setCell ?_ (by first | omega | (simp; done) | (simp; omega)) _ | refine below_step (by assumption) (by first | omega | (simp; done) | (simp; omega)) ?_)).mono HEX.out.size)) (HEX.out.size)))).mono ?_
      rintro e w3 ⟨rfl, hb3⟩
      have HB3 := Lib.hid (show Below wx.heap.size wx w3 from below_step hb3 (show wx.heap.size ≤ _ from Nat.le_refl _) (show Below wx.heap.size wx _ by repeat (first | exact Below.refl _ _ | refine below_dN ?_ _ | refine Below.drew ?_ | refine Below.alloc ?_ (by first | omega | (simp; done) | (simp; omega)) _ | refine Below.setCell ?_ (by first | omega | (simp; done) | (simp; omega)) _ | refine below_step (by assumption) (by first | omega | (simp; done) | (simp; omega)) ?_)))
      have HBX3 := Lib.hid (((HB.out.up HBX.out).up HB3.out))
      have HO3 := Lib.hid (own_below (own_below HO.out HBX.out) HB3.out)
      have HE3 := Lib.hid (HEX.out.trans (HB3.out.mono HEX.out.size))
      have HZ3 := Lib.hid (HZ.out.up HB3.out)
      clear hb3 z0 z1 z2 z3 d0 d1 d2 d3
      go_wp2_with (refine wpList_store1 (by rfl) 3 _ _ (by rfl) w.heap.size j (.int .i64 x) (by rfl) (by rfl) (by rfl) (there_blk HBX3.out (by simp [ic, front_len HL.out hj]; omega)) (by kernel_rfl) rfl ?_; intro wy HWY; have HBY := Lib.hid (show BxI wy w.heap.size 3 (ic (frontL s F.length (j + 1))).toArray by rw [HWY.out, ← front_set HL.out hlt, HX.out, ← ic_setW]; exact HBX3.out.set j _); have HOY := Lib.hid (show wy.ownsRow (w.heap.size + 1) 100 1 (.slice A1 n c1') n (u64C (clrW (wdsOf F n s) (F.take j))) by rw [HWY.out]; exact own_set HO3.out (p := ⟨w.heap.size, j, none⟩) (Nat.lt_succ_self _)); have HEY := Lib.hid (show Below w.heap.size w wy by rw [HWY.out]; exact HE3.out.setCell (p := ⟨w.heap.size, j, none⟩) (Nat.le_refl _) _); have HZY := Lib.hid (show BxI wy wr.heap.size 92 #[.int .i64 fw, .int .i64 fb2, .int .i64 fwd, .int .i64 fsz] by rw [HWY.out]; exact HZ3.out.far (p := ⟨w.heap.size, j, none⟩) (by have := HB.out.lt; dsimp only; omega) _); have z0 := HZY.out.cell 0 _ rfl; have z1 := HZY.out.cell 1 _ rfl; have z2 := HZY.out.cell 2 _ rfl; have z3 := HZY.out.cell 3 _ rfl; have y0 : wy.cell? ⟨w.heap.size, j, none⟩ = some (.int .i64 x) := by { have := HBY.out.cell j _ (ic_at (by rw [front_len HL.out (by omega)]; exact hlt)); rw [← HX.out, this, ← front_set HL.out hlt]; simp [nth, List.getD, front_len HL.out hj, hlt] })
      go_quiet (fail)
      obtain ⟨g, rfl, hg1, hg2, hfz⟩ := own_frozen' HOY.out (by omega)
      have HCL := Lib.hid (show (clrW (wdsOf F n s) (F.take j)).length = n by rw [clrW_len, wds_len])
      have k0 := own_cell HOY.out (u64C_at (by rw [HCL.out]; exact hw1))
      have HLT := Lib.hid (show wd (clrW (wdsOf F n s) (F.take j)) fw < 18446744073709551616 from Nat.lt_of_le_of_lt (clrW_le _ _ _ (fun f hf => by rw [wds_len]; exact (HF.out.ok f (List.mem_of_mem_take hf)).1)) (wds_lt HF.out HOK.out fw))
      obtain ⟨wv, hwv⟩ : ∃ v, v = wd (clrW (wdsOf F n s) (F.take j)) fw := ⟨_, rfl⟩
      have HWV := Lib.hid hwv
      rw [← hwv] at k0 HLT
      clear hwv
      obtain ⟨mk, hmkk⟩ : ∃ v, v = maskF ⟨fw, fb2, fwd, fsz⟩ := ⟨_, rfl⟩
      have hmlt : mk < 18446744073709551616 := by rw [hmkk]; exact mask_lt ⟨hw2, hw4⟩
      have HMK := Lib.hid hmkk
      rw [← hmkk] at KM
      clear hmkk
      have kan := u64_andNot_nat wv mk HLT.out hmlt
      obtain ⟨ov, hov⟩ : ∃ v, v = wv &&& (18446744073709551615 - mk) := ⟨_, rfl⟩
      rw [← hov] at kan
      have HOV := Lib.hid hov
      clear hov
      have HS1 := Lib.hid (show ∀ w' : World, Below wy.heap.size wy w' → w'.cell? ⟨wr.heap.size, 0, none⟩ = some (.int .i64 fw) ∧ w'.cell? ⟨wr.heap.size, 1, none⟩ = some (.int .i64 fb2) ∧ w'.cell? ⟨wr.heap.size, 2, none⟩ = some (.int .i64 fwd) ∧ w'.cell? ⟨wr.heap.size, 3, none⟩ = some (.int .i64 fsz) ∧ w'.cell? ⟨g, fw, none⟩ = some (.int .u64 wv) from fun w' hb' => ⟨(HZY.out.up hb').cell 0 _ rfl, (HZY.out.up hb').cell 1 _ rfl, (HZY.out.up hb').cell 2 _ rfl, (HZY.out.up hb').cell 3 _ rfl, (hb'.cell (p := ⟨g, _, none⟩) hg2).trans k0⟩)
      clear z0 z1 z2 z3 y0 k0
      go_wp2_with fail
      refine wp_region_G 9 (fun w' => w'.cell? ⟨wr.heap.size, 0, none⟩ = some (.int .i64 fw) ∧ w'.cell? ⟨wr.heap.size, 1, none⟩ = some (.int .i64 fb2) ∧ w'.cell? ⟨wr.heap.size, 2, none⟩ = some (.int .i64 fwd) ∧ w'.cell? ⟨wr.heap.size, 3, none⟩ = some (.int .i64 fsz) ∧ w'.cell? ⟨g, fw, none⟩ = some (.int .u64 wv)) (by kernel_rfl) (HS1.out _ (by repeat (first | exact Below.refl _ _ | refine below_dN ?_ _ | refine Below.drew ?_ | refine Below.alloc ?_ (by first | omega | (simp; done) | (simp; omega)) _ | refine Below.setCell ?_ (by first | omega | (simp; done) | (simp; omega)) _ | refine below_step (by assumption) (by first | omega | (simp; done) | (simp; omega)) ?_))) ?_
      intro hG0
      refine wpS1 0 hG0 ?_; intro hG1; clear hG0
      refine wpS1 1 hG1 ?_; intro hG2; clear hG1
      refine wpS2 2 hG2 ?_; intro hG3; clear hG2
      refine wpS1 3 hG3 ?_; intro hG4; clear hG3
      refine wpS2 4 hG4 ?_; intro hG5; clear hG4
      refine wpS2 5 hG5 ?_; intro hG6; clear hG5
      refine wpAnyG_ready (rs := [6]) (by kernel_rfl) (by simp) (AllG.cons rfl hG6 (fun K hK => ?_) AllG.nil)
      (go_simp; go_at_call 38; refine (KM.out _).mono ?_; rintro e w4 ⟨rfl, hb4⟩; have HB4 := Lib.hid (show Below wy.heap.size wy w4 from below_step hb4 (show wy.heap.size ≤ wy.drew.heap.size from Nat.le_refl _) (show Below wy.heap.size wy _ by repeat (first | exact Below.refl _ _ | refine below_dN ?_ _ | refine Below.drew ?_ | refine Below.alloc ?_ (by first | omega | (simp; done) | (simp; omega)) _ | refine Below.setCell ?_ (by first | omega | (simp; done) | (simp; omega)) _ | refine below_step (by assumption) (by first | omega | (simp; done) | (simp; omega)) ?_))); clear hb4; have HOW4 := Lib.hid (own_below HOY.out HB4.out))
      refine hK.out _ _ (Or.inr (HS1.out _ HB4.out)) (fun hG7 => wpN ?_); clear hK hG6
      refine wpS1 7 hG7 ?_; intro hG8; clear hG7
      refine wpS1 8 hG8 ?_; intro hG9; clear hG8
      refine wpAnyG_ready (rs := [9]) (by kernel_rfl) (by simp) (AllG.cons rfl hG9 (fun K hK => ?_) AllG.nil)
      (refine step_store1 (by rfl) 100 _ _ (by rfl) g fw (.int .u64 (ov : Nat)) rfl (by rfl) (by rfl) (there_own (s := 1) (by exact HOW4.out) (by omega)) (by kernel_rfl) rfl ?_; intro wz HWZ)
      refine hK.out _ _ (Or.inl rfl) (fun hG10 => wpN ?_); clear hK hG9
      refine wpAnyG_done (by kernel_rfl) ?_ _; clear hG10
      have HTK := Lib.hid (show F.take (j + 1) = F.take j ++ [fld F j] by
        rw [List.take_add_one, (fld_mem hlt).2]; rfl)
      have HOZ := Lib.hid (show wz.ownsRow (w.heap.size + 1) 100 1 (.slice (some ⟨g, 0, none⟩) n c1') n (u64C (clrW (wdsOf F n s) (F.take (j + 1)))) by
        rw [HWZ.out, HTK.out, clrW_app, HFJ.out]
        dsimp only
        rw [← HWV.out, ← HMK.out, ← HOV.out, ← u64C_set']
        exact own_setAt2 (by exact HOW4.out) _)
      have HBZ := Lib.hid (show BxI wz w.heap.size 3 (ic (frontL s F.length (j + 1))).toArray by
        rw [HWZ.out]
        exact BxI.far (by exact HBY.out.up HB4.out) (p := ⟨g, fw, none⟩) (by dsimp only; omega) _)
      have HEZ := Lib.hid (show Below w.heap.size w wz by
        rw [HWZ.out]
        exact Below.setCell (p := ⟨g, fw, none⟩) ((HEY.out.trans (HB4.out.mono HEY.out.size)).trans ((show Below w4.heap.size w4 _ by repeat (first | exact Below.refl _ _ | refine below_dN ?_ _ | refine Below.drew ?_ | refine Below.alloc ?_ (by first | omega | (simp; done) | (simp; omega)) _ | refine Below.setCell ?_ (by first | omega | (simp; done) | (simp; omega)) _ | refine below_step (by assumption) (by first | omega | (simp; done) | (simp; omega)) ?_)).mono (HEY.out.trans (HB4.out.mono HEY.out.size)).size)) (by dsimp only; omega) _)
      clear kan
      go_wp2
      go_roundw
      case rel => exact ⟨j + 1, rfl, by omega, HBZ, HOZ, HEZ⟩
      case measure => simp [RowKit.intOf]; omega
    · obtain rfl : j = F.length := by omega
      have HOZ := Lib.hid (show ∀ i, i < n → ∃ b off, A1 = some ⟨b, off, none⟩ ∧ wr.cell? ⟨b, off + i, none⟩ = some (.int .u64 0) from fun i hi => by
        obtain ⟨g, rfl, hg1, hg2, hfz⟩ := own_frozen' HO.out (by omega)
        have h := own_cell HO.out (u64C_at (i := i) (by rw [clrW_len, wds_len]; exact hi))
        rw [List.take_of_length_le (Nat.le_refl _), clr_all HF.out HOK.out] at h
        exact ⟨g, 0, rfl, by simpa using h⟩)
      obtain ⟨wt, hwt⟩ : ∃ wt : World, wr = wt := ⟨_, rfl⟩
      rw [hwt] at HB HO HE HOZ ⊢
      clear hwt
      go_wp2_with fail
      go_loopw [67] (fun v67 wr => ∃ k : Nat, v67 = .int .i64 k ∧ k ≤ n ∧ wr = wt) (fun v _ => n - (RowKit.intOf v).toNat)
      case atStart => exact ⟨0, rfl, Nat.zero_le _, rfl⟩
      case round =>
        obtain ⟨k, rfl, hk, rfl⟩ := hrel
        by_cases hlt2 : k < n
        · obtain ⟨b, off, rfl, hz⟩ := HOZ.out k hlt2
          go_wp2
          go_roundw
          case rel => exact ⟨k + 1, rfl, by omega, by first | rfl | trivial⟩
          case measure => simp [RowKit.intOf]; omega
        · go_wp2
          refine bodyPost_ret (v := .tuple #[.slice (some ⟨w.heap.size, 0, none⟩) F.length F.length, .nilIface]) (by simp [results, Tryz.results16, go_sem, ↓IntWalk.iteOmega, *]) rfl ⟨⟨_, rfl, Nat.le_refl _, ?_⟩, by first | exact HE.out | (refine HE.out.trans (Below.mono ?_ HE.out.size); repeat (first | exact Below.refl _ _ | refine below_dN ?_ _ | refine Below.drew ?_ | refine Below.alloc ?_ (by first | omega | (simp; done) | (simp; omega)) _ | refine Below.setCell ?_ (by first | omega | (simp; done) | (simp; omega)) _ | refine below_step (by assumption) (by first | omega | (simp; done) | (simp; omega)) ?_))⟩
          have := HB.out
          rw [front_all HL.out] at this
          exact this
end Go.Proofs.YtpobnjbpglaohaaGreat
