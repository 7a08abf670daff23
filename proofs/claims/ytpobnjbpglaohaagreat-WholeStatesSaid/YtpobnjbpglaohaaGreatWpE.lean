/- pack: Pack, walked. -/
import Derived.Test.YtpobnjbpglaohaaGreatWgA
import Derived.Test.YtpobnjbpglaohaaGreatWpD
namespace Go.Proofs.YtpobnjbpglaohaaGreat
set_option linter.unusedSimpArgs false
set_option linter.unusedVariables false
open Go Go.RowKit
set_option linter.unusedVariables false

theorem u64C_set (W : List Nat) (i v : Nat) : (u64C W).toArray.setIfInBounds i (.int .u64 (v : Nat)) = (u64C (W.set i v)).toArray := by
  unfold u64C
  simp [List.map_set]
theorem u64_shl {x b n : Nat} (h : x < 2 ^ n) (hb : b + n ≤ 64) : IntKind.u64.wrap ((x : Int) * 2 ^ b) = ((x <<< b : Nat) : Int) := by
  have h1 := shl_lt h hb
  rw [two_pow, ← Int.natCast_mul, ← Nat.shiftLeft_eq, u64_nat _ h1]
theorem zipL_all {F : List Fld} {s : List Int} (h : s.length = F.length) : zipL F s F.length = F.zip (natL s) := by
  unfold zipL
  exact List.take_of_length_le (by rw [List.length_zip]; exact Nat.min_le_left _ _)
theorem flds_at {w : World} {bad : Nat → Prop} {A : Option Addr} {F : List Fld} (h : FldsAt w bad A F) {w' : World} (hb : Below w.heap.size w w') {j : Nat} (hj : j < F.length) : ∃ b off, A = some ⟨b, off, none⟩ ∧ b < w.heap.size ∧
    w'.cell? ⟨b, off + j * 4, none⟩ = some (.int .i64 (fld F j).word) ∧ w'.cell? ⟨b, off + j * 4 + 1, none⟩ = some (.int .i64 (fld F j).bit) ∧ w'.cell? ⟨b, off + j * 4 + 2, none⟩ = some (.int .i64 (fld F j).width) ∧ w'.cell? ⟨b, off + j * 4 + 3, none⟩ = some (.int .i64 (fld F j).size) := by
  obtain ⟨b, off, h1, h2, _, h3⟩ := h (by omega)
  obtain ⟨a0, a1, a2, a3⟩ := h3 j hj
  exact ⟨b, off, h1, h2, (hb.cell (p := ⟨b, _, none⟩) h2).trans a0, (hb.cell (p := ⟨b, _, none⟩) h2).trans a1, (hb.cell (p := ⟨b, _, none⟩) h2).trans a2, (hb.cell (p := ⟨b, _, none⟩) h2).trans a3⟩
theorem four_v {a b c d : Value} (h1 : a.oneCell' = true) (h2 : b.oneCell' = true) (h3 : c.oneCell' = true) (h4 : d.oneCell' = true) : ∀ v ∈ [a, b, c, d], v.oneCell' = true := by
  intro v hv
  simp only [List.mem_cons, List.not_mem_nil, or_false] at hv
  rcases hv with rfl | rfl | rfl | rfl <;> assumption
theorem qsizeFl : (Tryz.prog.info? 92).map (·.size) = some 4 := by kernel_rfl

set_option maxRecDepth 20000 in
set_option maxHeartbeats 4000000 in
theorem pack_any (F : List Fld) (n p : Nat) (bad : Nat → Prop) (s : List Int) (A : Option Addr) (c : Nat) (w : World) (hp : PkAt w bad p F n) (hF : FOk F n) (hs : IntsAt w w.heap.size A s) (hok : StOk F s) :
    Calls Tryz.prog 14 #[.pointer (some ⟨p, 0, none⟩), .slice A s.length c] w fun e w' => (∃ g, e = .returned (.tuple #[.slice (some ⟨g, 0, none⟩) n n, .nilIface]) ∧ w.heap.size ≤ g ∧ BxI w' g 100 (u64C (wdsOf F n s)).toArray) ∧ Below w.heap.size w w' := by
  obtain ⟨FA, FC, HP, hpb, hfc, hfl⟩ := hp
  have HFL := Lib.hid hfl
  have HPX := Lib.hid HP
  have HS := Lib.hid hs
  have HOK := Lib.hid hok
  have HF := Lib.hid hF
  have hn100 := hF.few
  have hlen := hF.len
  have hl := hok.1
  have hplt := HP.lt
  have c0 := HP.cell 0 _ rfl
  have c1 := HP.cell 1 _ rfl
  have Hmk := Lib.hid (make_u64 n (by omega))
  clear HP hfl hs hok hF
  rw [hl]
  have HL := Lib.hid hl
  clear hl
  have hmk := Hmk.out
  go_enter Tryz.func14, Tryz.ntmps14
  go_wp2_with fail
  go_loopw [31] (fun v31 wr => ∃ j : Nat, v31 = .int .i64 j ∧ j ≤ F.length ∧ Hid (BxI wr w.heap.size 100 (u64C (packW (zw n) (zipL F s j))).toArray) ∧ Hid (Below w.heap.size w wr)) (fun v _ => F.length - (RowKit.intOf v).toNat)
  case atStart => exact ⟨0, rfl, Nat.zero_le _, Lib.hid (BxI.new _ _ _), Lib.hid (by repeat (first | exact Below.refl _ _ | refine below_dN ?_ _ | refine Below.drew ?_ | refine Below.alloc ?_ (by first | omega | (simp; done) | (simp; omega)) _ | refine Below.setCell ?_ (by first | omega | (simp; done) | (simp; omega)) _ | refine below_step (by assumption) (by first | omega | (simp; done) | (simp; omega)) ?_))⟩
  case round =>
    obtain ⟨j, rfl, hj, HB, HE⟩ := hrel
    clear hmk
    by_cases hlt : j < F.length
    · obtain ⟨fb, fo, rfl, hfb, d0, d1, d2, d3⟩ := flds_at HFL.out HE.out hlt
      obtain ⟨sb, so, rfl, hsb, hsc⟩ := HS.out.2 (by rw [HL.out]; omega)
      have e0 := (HE.out.cell (p := ⟨sb, _, none⟩) hsb).trans (hsc j (by rw [HL.out]; exact hlt))
      obtain ⟨hx1, hx2⟩ := HOK.out.2 j hlt
      have hw := zipL_ok HF.out HOK.out (j + 1)
      rw [zipL_more HL.out hlt] at hw
      obtain ⟨⟨hw1, hw2⟩, hw3⟩ := hw _ (List.mem_append_right _ (List.mem_singleton.2 rfl))
      dsimp only at hw1 hw2 hw3
      obtain ⟨x, hx⟩ : ∃ x : Nat, nth s j = (x : Int) := ⟨(nth s j).toNat, by omega⟩
      have HX := Lib.hid hx
      rw [hx] at e0 hx1 hx2 hw3
      rw [Int.toNat_natCast] at hw3
      clear hsc hx
      obtain ⟨fw, fb2, fwd, fsz, hf⟩ : ∃ a b c d, fld F j = ⟨a, b, c, d⟩ := ⟨_, _, _, _, rfl⟩
      have HFJ := Lib.hid hf
      rw [hf] at d0 d1 d2 d3 hx2 hw1 hw2 hw3
      dsimp only at d0 d1 d2 d3 hx2 hw1 hw2 hw3
      clear hf
      have hx64 : x < 18446744073709551616 := by
        have : 2 ^ fwd ≤ 2 ^ 64 := Nat.pow_le_pow_right (by omega) (by omega)
        omega
      have HSH := Lib.hid (u64_shl hw3 hw2)
      have HXW := Lib.hid (u64_nat x hx64)
      clear hw3
      go_wp2_with (refine wpList_stores (by rfl) 92 _ _ (by rfl) wr.heap.size 0 [.int .i64 fw, .int .i64 fb2, .int .i64 fwd, .int .i64 fsz] (by rfl) (by rfl) (there_blk (heap_alloc_new _ _) (Nat.le_refl 4)) qsizeFl (four_v rfl rfl rfl rfl) ?_; intro wx HWX; have HBX := Lib.hid (show Below wr.heap.size wr wx by rw [HWX.out]; refine below_sets _ _ _ ?_ (Nat.le_refl _); repeat (first | exact Below.refl _ _ | refine below_dN ?_ _ | refine Below.drew ?_ | refine Below.alloc ?_ (by first | omega | (simp; done) | (simp; omega)) _ | refine Below.setCell ?_ (by first | omega | (simp; done) | (simp; omega)) _ | refine below_step (by assumption) (by first | omega | (simp; done) | (simp; omega)) ?_)); have HZ := Lib.hid (show BxI wx wr.heap.size 92 #[.int .i64 fw, .int .i64 fb2, .int .i64 fwd, .int .i64 fsz] by rw [HWX.out]; exact BxI.setAll (BxI.new _ _ _) rfl); have z0 := HZ.out.cell 0 _ rfl; have z1 := HZ.out.cell 1 _ rfl; have z3 := HZ.out.cell 3 _ rfl; have y0 := (HBX.out.cell (p := ⟨sb, _, none⟩) (Nat.lt_of_lt_of_le hsb HE.out.size)).trans e0)
      clear d0 d1 d2 d3 e0
      go_quiet (fail)
      have HBZ := Lib.hid (HB.out.up HBX.out)
      have HEZ := Lib.hid (HE.out.trans (HBX.out.mono HE.out.size))
      have HWL := Lib.hid (show (packW (zw n) (zipL F s j)).length = n by rw [packW_len]; exact List.length_replicate ..)
      have HLT := Lib.hid (show wd (packW (zw n) (zipL F s j)) fw < 18446744073709551616 from pack_lt (zipL_ok HF.out HOK.out j |> fun h p hp => (h p hp).1) (fun p hp => (zipL_ok HF.out HOK.out j p hp).2))
      have k0 := HBZ.out.cell fw _ (u64C_get (by rw [HWL.out]; exact hw1))
      obtain ⟨wv, hwv⟩ : ∃ v, v = wd (packW (zw n) (zipL F s j)) fw := ⟨_, rfl⟩
      have HWV := Lib.hid hwv
      rw [← hwv] at k0 HLT
      clear hwv
      have kcv := HXW.out
      have ksh := HSH.out
      have kor := u64_or_nat wv (x <<< fb2) HLT.out (shl_lt (n := fwd) (by
        have := (zipL_ok HF.out HOK.out (j + 1))
        rw [zipL_more HL.out hlt] at this
        have := (this _ (List.mem_append_right _ (List.mem_singleton.2 rfl))).2
        rw [HFJ.out, HX.out, Int.toNat_natCast] at this
        exact this) hw2)
      obtain ⟨sv, hsv⟩ : ∃ v, v = x <<< fb2 := ⟨_, rfl⟩
      rw [← hsv] at ksh kor
      obtain ⟨ov, hov⟩ : ∃ v, v = wv ||| sv := ⟨_, rfl⟩
      rw [← hov] at kor
      have HOV := Lib.hid (show ov = wv ||| x <<< fb2 by rw [hov, hsv])
      clear hov hsv
      have HS1 := Lib.hid (show wx.cell? ⟨wr.heap.size, 0, none⟩ = some (.int .i64 fw) ∧ wx.cell? ⟨wr.heap.size, 1, none⟩ = some (.int .i64 fb2) ∧ wx.cell? ⟨sb, so + j, none⟩ = some (.int .i64 x) ∧ wx.cell? ⟨w.heap.size, fw, none⟩ = some (.int .u64 wv) from ⟨z0, z1, y0, k0⟩)
      clear z0 z1 z3 y0 k0
      go_wp2_with fail
      refine wp_region_G 15 (fun w' => w'.cell? ⟨wr.heap.size, 0, none⟩ = some (.int .i64 fw) ∧ w'.cell? ⟨wr.heap.size, 1, none⟩ = some (.int .i64 fb2) ∧ w'.cell? ⟨sb, so + j, none⟩ = some (.int .i64 x) ∧ w'.cell? ⟨w.heap.size, fw, none⟩ = some (.int .u64 wv)) (by kernel_rfl) (HS1.out) ?_
      intro hG0
      refine wpS1 0 hG0 ?_; intro hG1; clear hG0
      refine wpS1 1 hG1 ?_; intro hG2; clear hG1
      refine wpS2 2 hG2 ?_; intro hG3; clear hG2
      refine wpS1 3 hG3 ?_; intro hG4; clear hG3
      refine wpS2 4 hG4 ?_; intro hG5; clear hG4
      refine wpS1 5 hG5 ?_; intro hG6; clear hG5
      refine wpS1 6 hG6 ?_; intro hG7; clear hG6
      refine wpS1 7 hG7 ?_; intro hG8; clear hG7
      refine wpS2 8 hG8 ?_; intro hG9; clear hG8
      refine wpS1 9 hG9 ?_; intro hG10; clear hG9
      refine wpS1 10 hG10 ?_; intro hG11; clear hG10
      refine wpS2 11 hG11 ?_; intro hG12; clear hG11
      refine wpS1 12 hG12 ?_; intro hG13; clear hG12
      refine wpS1 13 hG13 ?_; intro hG14; clear hG13
      refine wpS1 14 hG14 ?_; intro hG15; clear hG14
      refine wpAnyG_ready (rs := [15]) (by kernel_rfl) (by simp) (AllG.cons rfl hG15 (fun K hK => ?_) AllG.nil)
      (refine step_store1 (by rfl) 100 _ _ (by rfl) w.heap.size fw (.int .u64 (ov : Nat)) rfl (by rfl) (by rfl) (there_blk (HBZ.out) (by simp [u64C, HWL.out]; omega)) (by kernel_rfl) rfl ?_; intro wy HWY)
      refine hK.out _ _ (Or.inl rfl) (fun hG16 => wpN ?_); clear hK hG15
      refine wpAnyG_done (by kernel_rfl) ?_ _; clear hG16
      have HBY := Lib.hid (show BxI wy w.heap.size 100 (u64C (packW (zw n) (zipL F s (j + 1)))).toArray by
        rw [HWY.out, zipL_more HL.out hlt, packW_app, HFJ.out, HX.out, Int.toNat_natCast]
        dsimp only
        rw [← HWV.out, ← HOV.out, ← u64C_set]
        exact HBZ.out.set fw _)
      have HEY := Lib.hid (show Below w.heap.size w wy by rw [HWY.out]; exact Below.setCell (p := ⟨w.heap.size, fw, none⟩) (HEZ.out.trans ((show Below wx.heap.size wx _ by repeat (first | exact Below.refl _ _ | refine below_dN ?_ _ | refine Below.drew ?_ | refine Below.alloc ?_ (by first | omega | (simp; done) | (simp; omega)) _ | refine Below.setCell ?_ (by first | omega | (simp; done) | (simp; omega)) _ | refine below_step (by assumption) (by first | omega | (simp; done) | (simp; omega)) ?_)).mono HEZ.out.size)) (Nat.le_refl _) _)
      go_wp2
      go_roundw
      case rel => exact ⟨j + 1, rfl, by omega, HBY, HEY⟩
      case measure => simp [RowKit.intOf]; omega
    · obtain rfl : j = F.length := by omega
      go_wp2
      refine bodyPost_ret (v := .tuple #[.slice (some ⟨w.heap.size, 0, none⟩) n n, .nilIface]) (by simp [results, Tryz.results14, go_sem, ↓IntWalk.iteOmega, *]) rfl ⟨⟨_, rfl, Nat.le_refl _, ?_⟩, HE.out⟩
      have := HB.out
      rw [zipL_all HL.out] at this
      exact this
end Go.Proofs.YtpobnjbpglaohaaGreat
