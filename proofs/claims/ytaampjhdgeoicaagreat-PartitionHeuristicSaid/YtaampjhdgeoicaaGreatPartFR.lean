/- The reference's Greedy. -/
import Derived.Test.YtaampjhdgeoicaaGreatMfA
import Derived.Test.YtaampjhdgeoicaaGreatPartF
namespace Go.Proofs.YtaampjhdgeoicaaGreat
set_option linter.unusedSimpArgs false
set_option linter.unusedVariables false
open Go.RowKit
set_option linter.unusedVariables false

set_option maxRecDepth 100000 in
set_option maxHeartbeats 8000000 in
theorem rgreedy_any (costs : List Int) (l : List Cut) (A1 A2 : Option Addr) (c1 c2 : Nat) (w : World) (h1 : IntsAt w w.heap.size A1 costs) (h2 : CutsAt w w.heap.size A2 l) (hn : costs.length ≤ 100000) (hn1 : A1 = none → c1 = 0) :
  Calls Tryz.prog 21 #[.slice A1 costs.length c1, .slice A2 l.length c2] w (RetFk (greR costs l) (chk38 costs l) w) := by
 have k1 := fun w1 (hb : Below w.heap.size w w1) => rcheck38_any costs l A1 A2 c1 c2 w1 (h1.up hb) (h2.up hb)
 have l1 := h1.len
 have l2 := h2.len
 by_cases e0 : chk38 costs l = 0
 case neg =>
  have Hr := Lib.hid (show greR costs l = [] by unfold greR; rw [if_neg e0])
  have e1 : (chk38 costs l != 0) = true := by simpa using e0
  clear e0
  go_enter Tryz.func21, Tryz.ntmps21
  go_wp2_with fail; refine (k1 _ (by exact bel)).mono ?_; rintro e w1 ⟨rfl, hb1⟩; obtain ⟨hc1, hf1, hz1, hlt1, hle1⟩ := cellsIf hb1 (by (try simp); exact rfl); (try have := s00 w w1); (try have := s01 w w1); (try have := s02 w w1); (try have := s10 w w1); (try have := s11 w w1); (try have := s12 w w1); (try have := s20 w w1); (try have := s21 w w1); (try have := s22 w w1)
  go_wp2
  refine bodyPost_ret (v := .tuple #[.slice none 0 0, .int .i64 (chk38 costs l)]) (by simp [results, Tryz.results21, go_sem]) rfl ⟨⟨_, rfl, by rw [Hr.out]; exact gotFs_nil _⟩, by exact bel⟩
 have G := Lib.hid (good38 e0)
 have Hr := Lib.hid (show greR costs l = greL costs l l.length by unfold greR; rw [if_pos e0])
 have hm24 := G.out.many
 simp only [e0] at k1
 rw [e0]
 clear e0
 obtain ⟨inf, hi, iz0, iz1, iz2⟩ := info_parts infoC
 have Hp := Lib.hid (fun X (hb : Below w.heap.size w X) => ints_srcAt (c := c1) (h1.keep (w' := X) (fun _ hp => hb.cell hp) hb.size) hn1)
 obtain ⟨infI, hiI, izI0, izI1, izI2⟩ := info_parts infoI
 clear hn1
 go_enter Tryz.func21, Tryz.ntmps21
 go_wp2_with fail; refine (k1 _ (by exact bel)).mono ?_; rintro e w1 ⟨rfl, hb1⟩; obtain ⟨hc1, hf1, hz1, hlt1, hle1⟩ := cellsIf hb1 (by (try simp); exact rfl); (try have := s00 w w1); (try have := s01 w w1); (try have := s02 w w1); (try have := s10 w w1); (try have := s11 w w1); (try have := s12 w w1); (try have := s20 w w1); (try have := s21 w w1); (try have := s22 w w1)
 have hbw1 : Below w.heap.size w w1 := by exact bel
 have hz := hbw1.size
 clear hc1 hf1 hlt1 hle1
 go_wp2_with (at_builtin; refine wpList_append_src rfl _ _ 22 rfl w.heap.size 3 infI (.int .i64 0) 1 8 undI hiI izI0 izI1 izI2 rfl (by decide) (.slice (some ⟨w1.heap.size, 0, none⟩) 0 0) 0 [] rfl (World.ownsRow_made w1 #[] 0 (by omega) (by simp [maxLen]) rfl) A1 costs.length c1 (costs.map (.int .i64)) rfl (Hp.out _ (hbw1.alloc (by omega) _)) (by unfold maxLen; omega) (by omega) (by simp; omega) ?_; intro v w2 hown2 hgrow2 hat2; have hbw2 : Below w.heap.size w w2 := grown_below2 (s := 1) (hbw1.alloc (by omega) _) (Nat.le_refl _) (World.ownsRow_made w1 #[] 0 (by omega) (by simp [maxLen]) rfl) hgrow2; have hown3 : w2.ownsRow w.heap.size 3 1 v costs.length (ic costs) := (by simpa [ic] using hown2); clear hown2 hgrow2 hat2 hbw1; obtain ⟨L, d, hvL, hL⟩ := LeftAt.own hown3; subst hvL; have HL := Lib.hid hL; clear hL hown3)
 have hL := HL.out
 have hbw := hbw2
 clear hbw2 HL
 go_loopw [8, 27] (fun v i wr => ∃ k : Nat, k ≤ l.length ∧ i = .int .i64 k ∧ wr.ownsRow w.heap.size 45 2 v k (fc (greL costs l k)) ∧ LeftAt wr w.heap.size costs.length L (lefK costs l k) ∧ Below w.heap.size w wr) (fun _ i _ => l.length - (intOf i).toNat)
 case atStart => exact ⟨0, by omega, rfl, World.ownsRow_nil _ _ _ _, hL, hbw⟩
 case round =>
  clear hbw hL
  obtain ⟨k, hk, rfl, hown, hL, hbel⟩ := hrel
  obtain ⟨wt, rfl⟩ : ∃ wt : World, wt = wr := ⟨_, rfl⟩
  by_cases hlt : k < l.length
  ·obtain ⟨b, o, S, c, ea, hb, d0, hS, d1⟩ := h2.at2 hbel hlt
   subst ea
   have hbz := hbel.size
   have g2 : b < wt.heap.size := by omega
   have j1 := hS.len
   have hpos := G.out.some k hlt
   have hasc : Hid (∀ i, i < (cut l k).ops.length → 0 < i → nth (cut l k).ops (i - 1) < nth (cut l k).ops i) := Lib.hid fun i hi h0 => (G.out.op k hlt i hi).2.2 h0
   have HB := Lib.hid (lefK_bd G.out k hk)
   have HM : Hid (minK costs l k = minO (lefK costs l k) (cut l k).ops (cut l k).ops.length) := rfl
   have HK := Lib.hid (lefK_succ costs l k)
   have gop0 := G.out.op k hlt 0 hpos
   have hcl : 0 < costs.length := by omega
   obtain ⟨g, eL, hBg, hrow⟩ := hL hcl
   subst eL
   generalize hF : lefK costs l k = F at *
   have hgl := hrow.lt
   clear hF hL
   clear gop0
   go_wp2
   have hbx0 := fun X (hb : Below (wt.heap.size + 1) (wt.alloc (.cells #[.slice S (cut l k).ops.length c, .int .i64 (cut l k).cost] 41)) X) => (hb.cell (p := ⟨wt.heap.size, 0, none⟩) (by show wt.heap.size < _; omega)).trans (show _ = some (Value.slice S (cut l k).ops.length c) by simp)
   go_loopw [11, 34] (fun m i wx => ∃ (j : Nat) (y : Int), j ≤ (cut l k).ops.length ∧ i = .int .i64 j ∧ m = .int .i64 y ∧ y = minO F (cut l k).ops j ∧ Below (wt.heap.size + 1) (wt.alloc (.cells #[.slice S (cut l k).ops.length c, .int .i64 (cut l k).cost] 41)) wx) (fun _ i _ => (cut l k).ops.length - (intOf i).toNat)
   case atStart => exact ⟨0, 1048576, by omega, rfl, rfl, rfl, Below.refl _ _⟩
   case round =>
    obtain ⟨j, y, hj, rfl, rfl, hy, hbx1⟩ := hrel
    have hbx : Below wt.heap.size wt wr := ((Below.refl wt.heap.size wt).alloc (Nat.le_refl _) _).trans (hbx1.mono (by omega))
    obtain ⟨wu, rfl⟩ : ∃ wu : World, wu = wr := ⟨_, rfl⟩
    have Hy := Lib.hid hy
    clear hy
    have hbxw := hbel.trans (hbx.mono hbz)
    have hbxz := hbx.size
    by_cases hltj : j < (cut l k).ops.length
    ·obtain ⟨b', o', eS, hb', hc'⟩ := hS.at_ hltj; subst eS
     have d5 := (hbxw.cell (p := ⟨b', o' + j, none⟩) hb').trans (hc' j hltj)
     clear hc'
     have gop := G.out.op k hlt j hltj
     obtain ⟨x, hx⟩ : ∃ x : Nat, nth (cut l k).ops j = (x : Int) := ⟨(nth (cut l k).ops j).toNat, by omega⟩
     have HS := Lib.hid (show minO F (cut l k).ops (j + 1) = min y (F x) by rw [minO_succ, ← Hy.out, hx]; rfl)
     rw [hx] at d5 gop
     have hxl : x < costs.length := by omega
     have q0 := (hrow.up hbx).cell hxl
     have x0 : (0 : Int) ≤ (x : Int) := by omega
     have x1 : (x : Int) < (costs.length : Int) := by omega
     clear gop hx
     by_cases hle : y ≤ F x
     ·go_wp2
      all_goals
       go_roundw
       case rel => exact ⟨j + 1, y, by omega, by go_num, by first | rfl | (congr 1; omega), (min_l HS.out hle).symm, hbx1⟩
       case measure => simp [intOf]; omega
     ·go_wp2
      all_goals
       go_roundw
       case rel => exact ⟨j + 1, F x, by omega, by go_num, by first | rfl | (congr 1; omega), (min_r HS.out hle).symm, hbx1⟩
       case measure => simp [intOf]; omega
    ·obtain rfl : j = (cut l k).ops.length := by omega
     have Hym := Lib.hid (show y = minK costs l k by rw [Hy.out, HM.out])
     have y1 : y ≤ 1048576 := by rw [Hym.out, HM.out]; exact minO_le _ _ _
     have y0 : 0 ≤ y := by
      rw [Hym.out, HM.out]
      refine minO_ge fun t ht => ?_
      have := G.out.op k hlt t ht
      exact (HB.out _ (by omega)).1
     have c0 : wu.cell? ⟨wt.heap.size, 0, none⟩ = some (.slice S (cut l k).ops.length c) := hbx0 wu hbx1
     go_wp2
     go_loopw [48] (fun i wz => ∃ j : Nat, j ≤ (cut l k).ops.length ∧ i = .int .i64 j ∧ rowGe wz g 3 costs.length (fun x => .int .i64 (subO F (cut l k).ops y j x)) ∧ wz.ownsRow w.heap.size 45 2 u8 k (fc (greL costs l k)) ∧ Below w.heap.size w wz) (fun i _ => (cut l k).ops.length - (intOf i).toNat)
     case atStart => exact ⟨0, by omega, rfl, hrow.up hbx, own_below hown hbx, hbxw⟩
     case round =>
      obtain ⟨j, hj, rfl, hrow2, hown2, hby⟩ := hrel
      have hbyz := hby.size
      by_cases hltj : j < (cut l k).ops.length
      ·obtain ⟨b', o', eS, hb', hc'⟩ := hS.at_ hltj; subst eS
       have d5 := (hby.cell (p := ⟨b', o' + j, none⟩) hb').trans (hc' j hltj)
       clear hc'
       have gop := G.out.op k hlt j hltj
       obtain ⟨x, hx⟩ : ∃ x : Nat, nth (cut l k).ops j = (x : Int) := ⟨(nth (cut l k).ops j).toNat, by omega⟩
       have HX := Lib.hid (subO_succ (f := F) (m := y) hasc.out hltj hx)
       have hxl : x < costs.length := by rw [hx] at gop; omega
       have q0 := hrow2.cell hxl
       have q1 := hrow2.frozen x
       have hsn := subO_new (f := F) (m := y) hasc.out hltj hx
       have q2 : 0 ≤ subO F (cut l k).ops y j x := by rw [hsn]; exact (HB.out x hxl).1
       have q3 : subO F (cut l k).ops y j x ≤ 1048576 := by rw [hsn]; exact (HB.out x hxl).2
       rw [hx] at d5 gop
       have x0 : (0 : Int) ≤ (x : Int) := by omega
       have x1 : (x : Int) < (costs.length : Int) := by omega
       have hne := hrow2.ne hown2 (by decide)
       have hown4 := hown2.kept (row := some g) (w' := wr.setCell ⟨g, x, none⟩ (.int .i64 (subO F (cut l k).ops y j x - y))) ⟨rfl, rfl, rfl, by simp [World.setCell], fun i hi hne => Below.heap_setCell _ _ _ _ (fun e => hne (by rw [e]))⟩ (.inr (Ne.symm hne))
       have Hown4 := Lib.hid hown4
       clear gop hx hsn hne hown4 hown2
       go_wp2
       go_roundw
       case rel => exact ⟨j + 1, by omega, by go_num, (hrow2.set x _).congr fun z _ => (by rw [HX.out z]; by_cases e : z = x <;> simp [e]), Hown4.out, by exact bel⟩
       case measure => simp [intOf]; omega
      ·obtain rfl : j = (cut l k).ops.length := by omega
       have HU := Lib.hid (show fc (greL costs l (k + 1)) = fc (greL costs l k) ++ [.int .i64 y, .int .i64 1] by rw [greL_succ, fc_app, ← Hym.out]; rfl)
       have HE := Lib.hid (show ∀ z, lefK costs l (k + 1) z = subO F (cut l k).ops y (cut l k).ops.length z from fun z => by rw [HK.out, Hym.out])
       have hown7 := hown2
       have hrow7 := hrow2
       have hbw7 := hby
       go_wp2_with (at_builtin; refine wpList_push rfl _ _ 37 rfl w.heap.size 45 inf (.agg #[.int .i64 0, .int .i64 0]) 2 16 undC hi iz0 iz1 iz2 rfl (by decide) (by decide) u8 k (fc (greL costs l k)) rfl (hown7.alloc _) wr.heap.size 45 [.int .i64 y, .int .i64 1] rfl rfl (heap_alloc_new _ _) (two_one rfl rfl) (by omega) (by first | omega | (simp; omega)) (B := w.heap.size) (W := w) (by exact bel) (Nat.le_refl _) ?_; intro v' w8 hown' hgrow hat hbw8; have hrow8 := (hrow7.alloc _).grown hgrow (hrow7.ne hown7 (by decide)); have Hown := Lib.hid hown'; have Hrow := Lib.hid hrow8; clear hown' hgrow hat hrow8)
       go_roundw
       case rel => exact ⟨k + 1, by omega, by go_num, by rw [HU.out]; exact Hown.out, fun _ => ⟨g, rfl, hBg, Hrow.out.congr fun z _ => by rw [HE.out z]⟩, hbw8⟩
       case measure => simp [intOf]; omega
  ·obtain rfl : k = l.length := by omega
   obtain ⟨A, d', rfl, hAd, hfa⟩ := gotFs_own hown (greL_len _ _ _) (by rw [greL_len]; omega)
   have Hg := Lib.hid (show GotFs wt (.slice A (greL costs l l.length).length d') (greL costs l l.length) from ⟨A, d', rfl, hAd, hfa⟩)
   clear hAd hfa hown
   go_wp2
   refine bodyPost_ret (v := .tuple #[.slice A (greL costs l l.length).length d', .int .i64 0]) (by simp [results, Tryz.results21, go_sem]) rfl ⟨⟨_, rfl, by rw [Hr.out]; exact Hg.out⟩, by exact bel⟩

end Go.Proofs.YtaampjhdgeoicaaGreat
