/- The reference's Begin. -/
import Derived.Test.YtaampjhdgeoicaaGreatMfA
import Derived.Test.YtaampjhdgeoicaaGreatMvF
namespace Go.Proofs.YtaampjhdgeoicaaGreat
set_option linter.unusedSimpArgs false
set_option linter.unusedVariables false
open Go Go.RowKit
set_option linter.unusedVariables false

theorem put3_own {w : World} {RB B s k : Nat} {e : TypeId} {v a0 a1 a2 u0 u1 u2 : Value} {xs : List Value} (hT : Tx w RB a0 a1 a2) (h : w.ownsRow B e s v k xs) (hne : 152 ≠ e) : (((w.setCell ⟨RB, 0, none⟩ u0).setCell ⟨RB, 1, none⟩ u1).setCell ⟨RB, 2, none⟩ u2).ownsRow B e s v k xs :=
 ((hT.set0 u0).set1 u1).put ((hT.set0 u0).put (hT.put h hne 0 u0) hne 1 u1) hne 2 u2
theorem put3_rwr {w : World} {RB B k N : Nat} {F : Nat → Nat → Rat} {v a0 a1 a2 u0 u1 u2 : Value} {rb cp : Nat → Nat} (hT : Tx w RB a0 a1 a2) (h : RwrAt w B k N F v rb cp) : RwrAt (((w.setCell ⟨RB, 0, none⟩ u0).setCell ⟨RB, 1, none⟩ u1).setCell ⟨RB, 2, none⟩ u2) B k N F v rb cp :=
 ((h.put hT 0 u0).put (hT.set0 u0) 1 u1).put ((hT.set0 u0).set1 u1) 2 u2
theorem put3_fr {w : World} {RB g N : Nat} {f : Nat → Rat} {a0 a1 a2 u0 u1 u2 : Value} (hT : Tx w RB a0 a1 a2) (h : FrRow w g N f) : FrRow (((w.setCell ⟨RB, 0, none⟩ u0).setCell ⟨RB, 1, none⟩ u1).setCell ⟨RB, 2, none⟩ u2) g N f := by
 have hn : g ≠ RB := rows_apart h hT (by decide)
 exact h.of_block (((Below.heap_setCell _ _ _ _ hn).trans (Below.heap_setCell _ _ _ _ hn)).trans (Below.heap_setCell _ _ _ _ hn))

set_option maxRecDepth 100000 in
set_option maxHeartbeats 8000000 in
theorem rbegin_any (c : List (Int × Int)) (R : List (List (Int × Int))) (b : List (Int × Int)) (Ac AR Ab : Option Addr) (cc cR cb : Nat) (w : World) (hc : FactsAt w w.heap.size Ac c) (hR : MxAt w AR R) (hb : FactsAt w w.heap.size Ab b) (zc : Ac = none → cc = 0) (h0 : chk37 c R b = 0) :
  Calls Tryz.prog 82 #[.slice Ac c.length cc, .slice AR R.length cR, .slice Ab b.length cb] w fun e w' => (∃ v, e = .returned v ∧ TabR w' (T37 c R b) R.length (c.length + R.length) v) ∧ Below w.heap.size w w' := by
 obtain ⟨n24, m24, hmb, hrl, hpc, hpb, hpr, hnn⟩ := chk_zero h0
 have NC := Lib.hid (nums_gl hpc (R.length + 1))
 have NR := Lib.hid (fun i (hi : i < R.length) => (by
  have h1 := nums_last (nums_rwl (l := mr R i) (hpr i hi) (i := i) (m := R.length)) (rl_num (l := b) (j := i) (prL_iff.1 hpb i (by omega))).1 (rl_num (l := b) (j := i) (prL_iff.1 hpb i (by omega))).2
  rw [hrl i hi] at h1
  exact h1 : NumsOf (rwl (mr R i) i R.length ++ [(fv b i, fx b i)]) (c.length + R.length + 1) (rowF (T37 c R b) (c.length + R.length) i)))
 have HRL := Lib.hid hrl
 have HR := Lib.hid hR
 have HBF := Lib.hid hb
 have HMB := Lib.hid hmb
 have HSC := Lib.hid (fun wx (h : Below w.heap.size w wx) => facts_src (factsAt_up hc h) zc)
 have KZ := Lib.hid rz_any
 have KO := Lib.hid one_any
 obtain ⟨inf, hi, iz0, iz1, iz2⟩ := info_parts infoC
 obtain ⟨inr, hir, jz0, jz1, jz2⟩ := info_parts infoRw
 obtain ⟨ini, hii, kz0, kz1, kz2⟩ := info_parts infoIc
 clear hc hR hb h0 hmb hrl hpc hpb hpr hnn zc
 have q1 : (0 : Int) ≤ (R.length : Int) := by omega
 have q2 : (R.length : Int) ≤ 24 := by omega
 have q4 : IntKind.i64.wrap ((R.length : Int) + 1) = (R.length : Int) + 1 := IntWalk.i64_in _ (by omega)
 go_enter Tryz.func82, Tryz.ntmps82
 go_upto_region 2 with fail
 have hRB := Tx.new w (.slice none 0 0) (.slice none 0 0) (.slice none 0 0)
 have hb1 : Below w.heap.size w (w.alloc (.cells #[.slice none 0 0, .slice none 0 0, .slice none 0 0] 152)) := (Below.refl _ _).alloc (Nat.le_refl _) _
 obtain ⟨w1, hw1⟩ : ∃ w1, w1 = w.alloc (.cells #[.slice none 0 0, .slice none 0 0, .slice none 0 0] 152) := ⟨_, rfl⟩
 obtain ⟨RB, hRBe⟩ : ∃ RB, RB = w.heap.size := ⟨_, rfl⟩
 rw [← hw1] at hRB hb1 ⊢
 rw [← hRBe] at hRB ⊢
 have z1 := hb1.size
 have HRB := Lib.hid hRB
 have HRBe := Lib.hid hRBe
 clear hw1 hRB hRBe
 go_wp2_with (at_builtin; refine wpList_append_srx rfl _ _ 150 37 rfl w1.heap.size 45 inf (.agg #[.int .i64 0, .int .i64 0]) 2 16 undRw undC hi iz0 iz1 iz2 rfl (by decide) (.slice (some ⟨w1.heap.size, 0, none⟩) 0 0) 0 [] rfl (own_built (B := w1.heap.size) (e := 45) (s := 2) w1 #[] 0 (Nat.le_refl _) (by simp [maxLen]) rfl) Ac c.length cc (fc c) rfl (HSC.out _ (hb1.alloc z1 _)) (by unfold maxLen; omega) (by omega) (by simp) ?_; intro v3 w3 ho3 hg3 _; simp only [Nat.zero_add, List.nil_append] at ho3; have hb3 : Below w1.heap.size w1 w3 := Below.grown (show Below w1.heap.size w1 (w1.alloc (.cells #[] 45)) from (Below.refl _ _).alloc (Nat.le_refl _) _) hg3 (by simp) (fun g h => by cases h; exact Nat.le_refl _); have ho3' : w3.ownsRow w1.heap.size 45 2 v3 (gl c 0).length (fc (gl c 0)) := (by rw [gl_zero]; exact ho3); obtain ⟨A5, c5, rfl⟩ := own_shape ho3'; have Ho3 := Lib.hid ho3'; clear ho3 ho3' hg3)
 have z3 := hb3.size
 go_loopw [23] (fun i wr => ∃ (k : Nat) (A5 : Option Addr) (c5 : Nat), k ≤ R.length + 1 ∧ i = .int .i64 k ∧ Tx wr w3.heap.size (.slice none 0 0) (.slice A5 (gl c k).length c5) (.slice none 0 0) ∧ Hid (wr.ownsRow w1.heap.size 45 2 (.slice A5 (gl c k).length c5) (gl c k).length (fc (gl c k))) ∧ Below w1.heap.size w1 wr) (fun i _ => R.length + 1 - (intOf i).toNat)
 case atStart => exact ⟨0, A5, c5, by omega, rfl, Tx.new _ _ _ _, Lib.hid (Ho3.out.alloc _), hb3.alloc z3 _⟩
 case round =>
  obtain ⟨k, A5, c5, hk, rfl, hbox, hown, hbel⟩ := hrel
  have hbz := hbel.size
  have y5 := hbox.c1
  have yf := hbox.fz 1
  have yl := hbox.lt
  have Hl := Lib.hid (show (gl c k).length ≤ 100 by rw [gl_len]; omega)
  by_cases hlt : k < R.length + 1
  ·have k0 : (0 : Int) ≤ (k : Int) := by omega
   have k1 : (k : Int) < (R.length : Int) + 1 := by omega
   go_wp2_with fail
   refine wp_region_G 4 (fun w' => ∀ b o, w'.cell? ⟨b, o, none⟩ = if b < wr.heap.size then wr.cell? ⟨b, o, none⟩ else hidC w' b o) (by kernel_rfl) (cif (B := wr.heap.size) (W := wr) (Below.refl _ _).drew) ?_
   intro hG0
   refine wpS1 0 hG0 ?_; intro hG1; clear hG0
   refine wpS2 1 hG1 ?_; intro hG2; clear hG1
   refine wpAnyG_ready (rs := [2]) (by kernel_rfl) (by simp) (AllG.cons rfl hG2 (fun K hK => ?_) AllG.nil)
   (go_simp; go_at_call 84; refine (KZ.out _).mono ?_; rintro e w5 ⟨rfl, hb5⟩; have hb15 : Below wr.heap.size wr w5 := (Below.refl _ _).drew.trans hb5; have z15 := hb15.size)
   refine hK.out _ _ (Or.inr (cif hb15)) (fun hG3 => wpN ?_); clear hK hG2
   refine wpAnyG_ready (rs := [3]) (by kernel_rfl) (by simp) (AllG.cons rfl hG3 (fun K hK => ?_) AllG.nil)
   (go_simp)
   refine hK.out _ _ (Or.inr (cif (hb15.alloc z15 _))) (fun hG4 => wpN ?_); clear hK hG3
   refine wpAnyG_ready (rs := [4]) (by kernel_rfl) (by simp) (AllG.cons rfl hG4 (fun K hK => ?_) AllG.nil)
   (refine step_append_src (by rfl) _ _ 150 (by rfl) w1.heap.size 45 inf (.agg #[.int .i64 0, .int .i64 0]) 2 16 undRw hi iz0 iz1 iz2 rfl (by decide) (.slice A5 (gl c k).length c5) (gl c k).length (fc (gl c k)) (by rfl) (by exact (own_below hown.out hb15).alloc _) (some ⟨w5.heap.size, 0, none⟩) 1 1 [.int .i64 0, .int .i64 1] (by rfl) (src_ofS (T := 45) (by exact heap_alloc_new _ _) rfl (two_one rfl rfl)) (by unfold maxLen; have := Hl.out; omega) (by have := Hl.out; omega) (by first | (simp; done) | (simp; omega)) ?_; intro v8 w8 ho8 hg8 hat8; have box8 := Tx.grown (hbox.up (hb15.alloc z15 (.cells #[.int .i64 0, .int .i64 1] 45))) ((own_below hown.out hb15).alloc _) hg8 (by decide); have hb8 : Below w1.heap.size w1 w8 := Below.grown (hbel.trans ((hb15.alloc z15 (.cells #[.int .i64 0, .int .i64 1] 45)).mono hbz)) hg8 (by first | (simp; done) | (simp; omega)) (fun g h => (hown.out.lt g h).1); have ho8' := gl_own ho8; obtain ⟨A8, c8, rfl⟩ := own_shape ho8'; have Ho8 := Lib.hid ho8'; have y8 := box8.fz 1; have y85 := box8.c1; have yl8 := box8.lt; have Hb8 := Lib.hid box8; clear ho8 ho8' hg8 hat8 box8)
   refine hK.out _ _ (Or.inl rfl) (fun hG5 => wpN ?_); clear hK hG4
   refine wpS1 5 hG5 ?_; intro hG6; clear hG5
   refine wpAnyG_ready (rs := [6]) (by kernel_rfl) (by simp) (AllG.cons rfl hG6 (fun K hK => ?_) AllG.nil)
   (go_simp)
   refine hK.out _ _ (Or.inl rfl) (fun hG7 => wpN ?_); clear hK hG6
   refine wpAnyG_done (by kernel_rfl) ?_ _; clear hG7
   go_wp2
   go_roundw
   case rel => exact ⟨k + 1, A8, c8, by omega, by go_num, Hb8.out.set1 _, Lib.hid (Hb8.out.put Ho8.out (by decide) 1 _), hb8.setCell (by show w1.heap.size ≤ w3.heap.size; omega) _⟩
   case measure => simp [intOf]; omega
  ·obtain rfl : k = R.length + 1 := by omega
   obtain ⟨w5, hw5⟩ : ∃ w5 : World, w5 = wr := ⟨_, rfl⟩
   obtain ⟨X, hX⟩ : ∃ X, X = w3.heap.size := ⟨_, rfl⟩
   rw [← hX] at hbox y5 yf yl ⊢
   rw [← hw5] at hbox hown hbel hbz y5 yf yl ⊢
   have hX1 : w1.heap.size ≤ X := by omega
   obtain ⟨A', c', hv, hg5⟩ := own_fr hown.out NC.out
   injection hv with hv1 hv2 hv3
   subst hv1
   obtain ⟨g5, rfl, _, hF5⟩ := hg5 (by omega)
   have HF5 := Lib.hid hF5
   have hgX : g5 ≠ X := rows_apart hF5 hbox (by decide)
   have HgX := Lib.hid hgX
   have Hv2 := Lib.hid hv2
   clear hw5 hv2 hv3 hX y5 yf hg5 hF5 hown Ho3 hgX
   have hbw5 := hb1.trans (hbel.mono z1)
   have zw5 := hbw5.size
   have HL5 := Lib.hid (gl_len (c := c) (k := R.length + 1))
   go_wp2
   go_loopw [34] (fun i wr => ∃ (k : Nat) (v0 v2 : Value) (rb cp : Nat → Nat), k ≤ R.length ∧ i = .int .i64 k ∧ Tx wr X v0 (.slice (some ⟨g5, 0, none⟩) (gl c (R.length + 1)).length c5) v2 ∧ Hid (RwrAt wr w5.heap.size k (c.length + R.length + 1) (rowF (T37 c R b) (c.length + R.length)) v0 rb cp) ∧ Hid (wr.ownsRow w5.heap.size 3 1 v2 (bsN c.length k).length (ic (bsN c.length k))) ∧ Kw X (X + 1) w5 wr) (fun i _ => R.length - (intOf i).toNat)
   case atStart => exact ⟨0, _, _, id, id, by omega, rfl, hbox, Lib.hid RwrAt.nil, Lib.hid (World.ownsRow_nil _ _ _ _), Kw.refl _ _ _⟩
   case round =>
    clear hbox
    obtain ⟨k, v0, v2, rb, cp, hk, rfl, hbox, hrw, hob, hkw⟩ := hrel
    obtain ⟨wt, hwt⟩ : ∃ wt : World, wt = wr := ⟨_, rfl⟩
    rw [← hwt] at hbox hrw hob hkw ⊢
    clear hwt
    have z5t := hkw.size
    have hb1t : Below w1.heap.size w1 wt := hbel.trans (hkw.below hX1 hbz)
    have hbel2 : Below w.heap.size w wt := hb1.trans (hb1t.mono z1)
    have zt := hbel2.size
    by_cases hlt : k < R.length
    ·obtain ⟨b1, o1, ea, hb1', hc1⟩ := HR.out.at_ hlt
     subst ea
     obtain ⟨S, cS, d1, zS, hS⟩ := hc1 k hlt
     have d1' := (hbel2.cell (p := ⟨b1, o1 + k, none⟩) hb1').trans d1
     have g1 : b1 < wt.heap.size := by omega
     obtain ⟨b2, o2, eb, hb2, hc2⟩ := HBF.out.at_ (k := k) (by have := HMB.out; omega)
     subst eb
     have f1 := (hbel2.cell (p := ⟨b2, o2 + k * 2, none⟩) hb2).trans (hc2 k (by have := HMB.out; omega)).1
     have f2 := (hbel2.cell (p := ⟨b2, o2 + k * 2 + 1, none⟩) hb2).trans (hc2 k (by have := HMB.out; omega)).2
     have g2 : b2 < wt.heap.size := by omega
     have k0 : (0 : Int) ≤ (k : Int) := by omega
     have k1 : (k : Int) < (R.length : Int) := by omega
     have k2 : (k : Int) < (b.length : Int) := by have := HMB.out; omega
     have hln := HRL.out k hlt
     have HSr := Lib.hid (fun wx (h : Below wt.heap.size wt wx) => facts_src (factsAt_up hS (hbel2.trans (h.mono zt))) zS)
     have Hl0 := Lib.hid (show (rwl (mr R k) k 0).length = c.length + 0 by rw [rwl_len, hln])
     have Hln := Lib.hid hln
     have hls : (mr R k).length ≤ 24 := by omega
     clear hc1 d1 hS hc2 hb1' hb2 hln zS
     go_wp2_with (at_builtin; refine wpList_append_srx rfl _ _ 150 37 rfl wt.heap.size 45 inf (.agg #[.int .i64 0, .int .i64 0]) 2 16 undRw undC hi iz0 iz1 iz2 rfl (by decide) (.slice (some ⟨wt.heap.size, 0, none⟩) 0 0) 0 [] rfl (own_built (B := wt.heap.size) (e := 45) (s := 2) wt #[] 0 (Nat.le_refl _) (by simp [maxLen]) rfl) S (mr R k).length cS (fc (mr R k)) rfl (HSr.out _ ((Below.refl _ _).alloc (Nat.le_refl _) _)) (by unfold maxLen; omega) (by omega) (by simp) ?_; intro v6 w6 ho6 hg6 _; simp only [Nat.zero_add, List.nil_append] at ho6; have hb6 : Below wt.heap.size wt w6 := Below.grown (show Below wt.heap.size wt (wt.alloc (.cells #[] 45)) from (Below.refl _ _).alloc (Nat.le_refl _) _) hg6 (by simp) (fun g h => by cases h; exact Nat.le_refl _); have ho6' : w6.ownsRow wt.heap.size 45 2 v6 (rwl (mr R k) k 0).length (fc (rwl (mr R k) k 0)) := (by rw [rwl_zero]; exact ho6); obtain ⟨Ar, cr, rfl⟩ := own_shapeL ho6' Hl0.out; have Hor := Lib.hid ho6'; clear ho6 ho6' hg6)
     clear d1' g1
     go_loopw [11, 44] (fun v i wr => ∃ (j : Nat) (Ar : Option Addr) (cr : Nat), j ≤ R.length ∧ i = .int .i64 j ∧ v = .slice Ar (c.length + j) cr ∧ Hid (wr.ownsRow wt.heap.size 45 2 (.slice Ar (c.length + j) cr) (rwl (mr R k) k j).length (fc (rwl (mr R k) k j))) ∧ Below wt.heap.size wt wr) (fun _ i _ => R.length - (intOf i).toNat)
     case atStart => exact ⟨0, Ar, cr, by omega, rfl, rfl, Hor, hb6⟩
     case round =>
      obtain ⟨j, Aj, cj, hj, rfl, rfl, hoj, hbj⟩ := hrel
      have hbjz := hbj.size
      have Hlj := Lib.hid (show (rwl (mr R k) k j).length ≤ 100 by rw [rwl_len, Hln.out]; omega)
      have Hlj2 := Lib.hid (show (rwl (mr R k) k (j + 1)).length = c.length + (j + 1) by rw [rwl_len, Hln.out])
      by_cases hltj : j < R.length
      ·have j0 : (0 : Int) ≤ (j : Int) := by omega
       have j1 : (j : Int) < (R.length : Int) := by omega
       by_cases e : j = k
       ·subst e
        go_wp2_with fail
        refine (KO.out _).mono ?_
        rintro e w7 ⟨rfl, hb7⟩
        have hb17 := hbj.trans (hb7.mono hbjz)
        have z17 := hb17.size
        have Ho7 := Lib.hid (own_below hoj.out hb7)
        go_wp2_with (at_builtin; refine wpList_push rfl _ _ 150 rfl wt.heap.size 45 inf (.agg #[.int .i64 0, .int .i64 0]) 2 16 undRw hi iz0 iz1 iz2 rfl (by decide) (by decide) _ (rwl (mr R j) j j).length (fc (rwl (mr R j) j j)) rfl (Ho7.out.alloc _) w7.heap.size 45 [.int .i64 1, .int .i64 1] rfl rfl (heap_alloc_new _ _) (two_one rfl rfl) (by have := Hlj.out; omega) (by first | omega | (simp; omega)) (B := wt.heap.size) (W := wt) (hb17.alloc z17 _) (Nat.le_refl _) ?_; intro v8 w8 hown' hgrow hat hbw8; have hown2 := rwl_own (l := mr R j) (i := j) (k := j) (by rw [if_pos rfl]; exact hown'); obtain ⟨A8, c8, rfl⟩ := own_shapeL hown2 Hlj2.out; have Hown := Lib.hid hown2; clear hown' hown2 hgrow hat)
        go_roundw
        case rel => exact ⟨j + 1, A8, c8, by omega, by go_num, rfl, Hown, hbw8⟩
        case measure => simp [intOf]; omega
       ·have e1 : ¬ (j : Int) = (k : Int) := by omega
        have e2 : ((j : Int) == (k : Int)) = false := by simpa using e1
        go_wp2_with fail
        refine (KZ.out _).mono ?_
        rintro e w7 ⟨rfl, hb7⟩
        have hb17 := hbj.trans (hb7.mono hbjz)
        have z17 := hb17.size
        have Ho7 := Lib.hid (own_below hoj.out hb7)
        go_wp2_with (at_builtin; refine wpList_push rfl _ _ 150 rfl wt.heap.size 45 inf (.agg #[.int .i64 0, .int .i64 0]) 2 16 undRw hi iz0 iz1 iz2 rfl (by decide) (by decide) _ (rwl (mr R k) k j).length (fc (rwl (mr R k) k j)) rfl (Ho7.out.alloc _) w7.heap.size 45 [.int .i64 0, .int .i64 1] rfl rfl (heap_alloc_new _ _) (two_one rfl rfl) (by have := Hlj.out; omega) (by first | omega | (simp; omega)) (B := wt.heap.size) (W := wt) (hb17.alloc z17 _) (Nat.le_refl _) ?_; intro v8 w8 hown' hgrow hat hbw8; have hown2 := rwl_own (l := mr R k) (i := k) (k := j) (by rw [if_neg e]; exact hown'); obtain ⟨A8, c8, rfl⟩ := own_shapeL hown2 Hlj2.out; have Hown := Lib.hid hown2; clear hown' hown2 hgrow hat)
        go_roundw
        case rel => exact ⟨j + 1, A8, c8, by omega, by go_num, rfl, Hown, hbw8⟩
        case measure => simp [intOf]; omega
      ·obtain rfl : R.length = j := by omega
       have HlF := Lib.hid (show (rwl (mr R k) k R.length ++ [(fv b k, fx b k)]).length = c.length + R.length + 1 by rw [List.length_append, rwl_len, Hln.out]; rfl)
       have NRk := Lib.hid (NR.out k hlt)
       obtain ⟨A0, c0, rfl⟩ := own_shape hrw.out.own
       have y0 := hbox.c0
       have yl := hbox.lt
       have y0' := (hbj.cell (p := ⟨X, 0, none⟩) yl).trans y0
       have yl' : X < wr.heap.size := by omega
       have f1' := (hbj.cell (p := ⟨b2, o2 + k * 2, none⟩) g2).trans f1
       have f2' := (hbj.cell (p := ⟨b2, o2 + k * 2 + 1, none⟩) g2).trans f2
       have g2' : b2 < wr.heap.size := by omega
       have HBX := Lib.hid hbox
       have HRW := hrw
       have HOB := hob
       have HKW := Lib.hid hkw
       have z5t' := z5t
       have Hoj := hoj
       clear hbox hrw hob hkw Hlj2 hoj
       go_upto_region 18 with fail
       refine wp_region_G 10 (fun w' => ∀ b o, w'.cell? ⟨b, o, none⟩ = if b < wt.heap.size then wt.cell? ⟨b, o, none⟩ else hidC w' b o) (by kernel_rfl) (cif (B := wt.heap.size) (W := wt) hbj.drew) ?_
       intro hG0
       refine wpS1 0 hG0 ?_; intro hG1; clear hG0
       refine wpS2 1 hG1 ?_; intro hG2; clear hG1
       refine wpS1 2 hG2 ?_; intro hG3; clear hG2
       refine wpS1 3 hG3 ?_; intro hG4; clear hG3
       refine wpS1 4 hG4 ?_; intro hG5; clear hG4
       refine wpS1 5 hG5 ?_; intro hG6; clear hG5
       refine wpS2 6 hG6 ?_; intro hG7; clear hG6
       refine wpAnyG_ready (rs := [7]) (by kernel_rfl) (by simp) (AllG.cons rfl hG7 (fun K hK => ?_) AllG.nil)
       (go_simp)
       refine hK.out _ _ (Or.inr (cif (hbj.drew.alloc (by simpa using hbjz) _))) (fun hG8 => wpN ?_); clear hK hG7
       refine wpAnyG_ready (rs := [8]) (by kernel_rfl) (by simp) (AllG.cons rfl hG8 (fun K hK => ?_) AllG.nil)
       (refine step_append_src (by rfl) _ _ 150 (by rfl) wt.heap.size 45 inf (.agg #[.int .i64 0, .int .i64 0]) 2 16 undRw hi iz0 iz1 iz2 rfl (by decide) (.slice Aj (c.length + R.length) cj) (rwl (mr R k) k R.length).length (fc (rwl (mr R k) k R.length)) (by rfl) (by exact (own_below Hoj.out (Below.refl _ _).drew).alloc _) (some ⟨wr.heap.size, 0, none⟩) 1 1 [.int .i64 (fv b k), .int .i64 (fx b k)] (by rfl) (src_ofS (T := 45) (by exact heap_alloc_new _ _) rfl (two_one rfl rfl)) (by unfold maxLen; have := Hlj.out; omega) (by have := Hlj.out; omega) (by first | (simp; done) | (simp; omega)) ?_; intro v8 w8 ho8 hg8 hat8; have hb8 : Below wt.heap.size wt w8 := Below.grown (hbj.drew.alloc (by simpa using hbjz) (.cells #[.int .i64 (fv b k), .int .i64 (fx b k)] 45)) hg8 (by first | (simp; done) | (simp; omega)) (fun g h => (Hoj.out.lt g h).1); have ho8' : w8.ownsRow wt.heap.size 45 2 v8 (rwl (mr R k) k R.length ++ [(fv b k, fx b k)]).length (fc (rwl (mr R k) k R.length ++ [(fv b k, fx b k)])) := (by rw [List.length_append, fc_app]; exact ho8); obtain ⟨A8, c8, rfl, hF8⟩ := own_fr ho8' NRk.out; obtain ⟨g8, rfl, _, hF8⟩ := hF8 (Nat.succ_pos _); have HF8 := Lib.hid hF8; have z8 := hb8.size; clear ho8 ho8' hg8 hat8 hF8)
       refine hK.out _ _ (Or.inr (cif hb8)) (fun hG9 => wpN ?_); clear hK hG8
       refine wpAnyG_ready (rs := [9]) (by kernel_rfl) (by simp) (AllG.cons rfl hG9 (fun K hK => ?_) AllG.nil)
       (go_simp)
       refine hK.out _ _ (Or.inr (cif (hb8.alloc z8 _))) (fun hG10 => wpN ?_); clear hK hG9
       refine wpAnyG_ready (rs := [10]) (by kernel_rfl) (by simp) (AllG.cons rfl hG10 (fun K hK => ?_) AllG.nil)
       (refine step_append_src (by rfl) _ _ 149 (by rfl) w5.heap.size 150 inr (.slice none 0 0) 1 24 undRws hir jz0 jz1 jz2 rfl (by decide) (.slice A0 k c0) k ((List.range k).map fun i => .slice (some ⟨rb i, 0, none⟩) (c.length + R.length + 1) (cp i)) (by rfl) (by exact (own_below HRW.out.own hb8).alloc _) (some ⟨w8.heap.size, 0, none⟩) 1 1 [.slice (some ⟨g8, 0, none⟩) (c.length + R.length + 1) c8] (by rfl) (src_ofS (T := 150) (by exact heap_alloc_new _ _) rfl (one_one rfl)) (by unfold maxLen; omega) (by omega) (by first | (simp; omega) | (simp; done)) ?_; intro va wa hoa hga hata; have hal := hb8.alloc z8 (.cells #[.slice (some ⟨g8, 0, none⟩) (c.length + R.length + 1) c8] 150); have hal8 := (Below.refl w8.heap.size w8).alloc (Nat.le_refl _) (.cells #[.slice (some ⟨g8, 0, none⟩) (c.length + R.length + 1) c8] 150); have Ra := Lib.hid (RwrAt.push (cp := cp) (c := c8) (HRW.out.up hal) (FrRow.up HF8.out hal8) hoa hga); have Ta := Lib.hid (Tx.grown (HBX.out.up hal) (own_below HRW.out.own hal) hga (by decide)); have Oa := Lib.hid (World.ownsRow.kept (own_below HOB.out hal) hga (own_apt3 (own_below HOB.out hal) (own_below HRW.out.own hal) (by decide))); have Ka := Lib.hid (Kw.grown (HKW.out.up hal) (own_below HRW.out.own hal) hga (Nat.le_refl _)); obtain ⟨Aa, ca, rfl⟩ := own_shape hoa; clear hoa hga hata hal hal8; have ya0 := Ta.out.c0; have yfa := Ta.out.fz 0; have yla := Ta.out.lt; clear y0 yl y0' yl')
       refine hK.out _ _ (Or.inl rfl) (fun hG11 => wpN ?_); clear hK hG10
       refine wpS1 11 hG11 ?_; intro hG12; clear hG11
       refine wpAnyG_ready (rs := [12]) (by kernel_rfl) (by simp) (AllG.cons rfl hG12 (fun K hK => ?_) AllG.nil)
       (go_simp)
       refine hK.out _ _ (Or.inl rfl) (fun hG13 => wpN ?_); clear hK hG12
       refine wpAnyG_done (by kernel_rfl) ?_ _; clear hG13
       obtain ⟨w9, hw9⟩ : ∃ w9, w9 = wa.setCell ⟨X, 0, none⟩ (.slice Aa (k + 1) ca) := ⟨_, rfl⟩
       have T9 := Lib.hid (show Tx w9 X (.slice Aa (k + 1) ca) (.slice (some ⟨g5, 0, none⟩) (gl c (R.length + 1)).length c5) v2 by rw [hw9]; exact Ta.out.set0 _)
       have R9 := Lib.hid (show RwrAt w9 w5.heap.size (k + 1) (c.length + R.length + 1) (rowF (T37 c R b) (c.length + R.length)) (.slice Aa (k + 1) ca) (upn rb k g8) (upn cp k c8) by rw [hw9]; exact Ra.out.put Ta.out 0 _)
       have O9 := Lib.hid (show w9.ownsRow w5.heap.size 3 1 v2 (bsN c.length k).length (ic (bsN c.length k)) by rw [hw9]; exact Ta.out.put Oa.out (by decide) 0 _)
       have K9 := Lib.hid (show Kw X (X + 1) w5 w9 by rw [hw9]; exact Ka.out.set (p := ⟨X, 0, none⟩) (Nat.le_refl _) (Nat.lt_succ_self _) _)
       rw [← hw9]
       clear hw9 ya0 yfa yla Ta Ra Oa Ka HRW HBX HOB HKW f1 f2 f1' f2' g2 g2' Hoj HF8 hb8 z8
       obtain ⟨A4, c4, rfl⟩ := own_shape O9.out
       have y4 := T9.out.c2
       have yf4 := T9.out.fz 2
       have yl9 := T9.out.lt
       have Hbl := Lib.hid (bsN_len c.length k)
       have z59 : w5.heap.size ≤ w9.heap.size := K9.out.size
       have p1 : (0 : Int) ≤ (c.length : Int) := by omega
       have p2 : (c.length : Int) ≤ 24 := by omega
       have p3 : (k : Int) ≤ 24 := by omega
       have p4 : IntKind.i64.wrap ((c.length : Int) + (k : Int)) = (c.length : Int) + (k : Int) := IntWalk.i64_in _ (by omega)
       go_wp2_with (at_builtin; refine wpList_push rfl _ _ 22 rfl w5.heap.size 3 ini (.int .i64 0) 1 8 undIc hii kz0 kz1 kz2 rfl (by decide) (by decide) (.slice A4 (bsN c.length k).length c4) (bsN c.length k).length (ic (bsN c.length k)) rfl (O9.out.alloc _) w9.heap.size 3 [.int .i64 ((c.length : Int) + (k : Int))] rfl rfl (heap_alloc_new _ _) (one_one rfl) (by have := Hbl.out; omega) (by first | omega | (simp; omega)) (B := X) (W := w5) ((K9.out.below (Nat.le_refl _) (by have := z59; omega)).alloc (by omega) _) (by omega) ?_; intro vb wb hob2 hgb hatb hbb; have hal := (Below.refl w9.heap.size w9).alloc (Nat.le_refl _) (.cells #[.int .i64 ((c.length : Int) + (k : Int))] 3); have Rb := Lib.hid (RwrAt.kept (R9.out.up hal) (own_below O9.out hal) hgb (by decide) (by decide)); have Tb := Lib.hid (Tx.grown (T9.out.up hal) (own_below O9.out hal) hgb (by decide)); have Kb := Lib.hid (Kw.grown (K9.out.up hal) (own_below O9.out hal) hgb (Nat.le_refl _)); have hob3 : wb.ownsRow w5.heap.size 3 1 vb (bsN c.length (k + 1)).length (ic (bsN c.length (k + 1))) := (by rw [bsN_succ, List.length_append]; unfold ic; rw [List.map_append]; exact hob2); obtain ⟨Ab', cb', rfl⟩ := own_shape hob3; have Ob := Lib.hid hob3; clear hob2 hob3 hgb hatb hbb hal; have yb2 := Tb.out.c2; have yfb := Tb.out.fz 2; have ylb := Tb.out.lt; clear y4 yf4 yl9)
       go_roundw
       case rel => (repeat apply Exists.intro); exact ⟨⟨k + 1, _, _, upn rb k g8, upn cp k c8, by omega, by go_num, Tb.out.set2 _, Lib.hid (Rb.out.put Tb.out 2 _), Lib.hid (Tb.out.put Ob.out (by decide) 2 _), Kb.out.set (p := ⟨X, 2, none⟩) (Nat.le_refl _) (Nat.lt_succ_self _) _⟩, rfl⟩
       case measure => simp [intOf]; omega
    ·obtain rfl : R.length = k := by omega
     have hrw := hrw.out
     have hob := hob.out
     have hRBt := (HRB.out.up hb1t)
     have hFt : FrRow wt g5 (c.length + (R.length + 1)) (fun j => if j < c.length then rl c j else 0) := hkw.row HF5.out (by have := HgX.out; omega)
     have r0 := hRBt.c0
     have r1 := hRBt.c1
     have r2 := hRBt.c2
     have r3 := hRBt.fz 0
     have r4 := hRBt.fz 1
     have r5 := hRBt.fz 2
     have r6 := hRBt.lt
     obtain ⟨A0, c0, rfl⟩ := own_shape hrw.own
     obtain ⟨A4, c4, rfl⟩ := own_shapeL hob (bsN_len c.length R.length)
     have y0 := hbox.c0
     have y1 := hbox.c1
     have y2 := hbox.c2
     have y3 := hbox.lt
     have HRT := Lib.hid hRBt
     have HFT := Lib.hid hFt
     have HRW := Lib.hid hrw
     have HOB := Lib.hid hob
     have HE := Lib.hid hbel2
     have hRBlt : w.heap.size ≤ RB := by have := HRBe.out; omega
     have HLE := Lib.hid hRBlt
     clear hRBt hFt hrw hob hkw hbox hbel2 hRBlt
     go_wp2
     refine bodyPost_ret (v := .agg #[.slice A0 R.length c0, .slice (some ⟨g5, 0, none⟩) (gl c (R.length + 1)).length c5, .slice A4 R.length c4]) (by simp [results, Tryz.results82, go_sem, ↓IntWalk.iteOmega, *]) rfl ⟨⟨_, rfl, ?_⟩, ?_⟩
     ·have R3 := put3_rwr (u0 := .slice A0 R.length c0) (u1 := .slice (some ⟨g5, 0, none⟩) (gl c (R.length + 1)).length c5) (u2 := .slice A4 R.length c4) HRT.out HRW.out
      have O3 := put3_own (u0 := .slice A0 R.length c0) (u1 := .slice (some ⟨g5, 0, none⟩) (gl c (R.length + 1)).length c5) (u2 := .slice A4 R.length c4) HRT.out HOB.out (by decide)
      have F3 := put3_fr (u0 := .slice A0 R.length c0) (u1 := .slice (some ⟨g5, 0, none⟩) (gl c (R.length + 1)).length c5) (u2 := .slice A4 R.length c4) HRT.out HFT.out
      obtain ⟨A0', c0', e0, hM⟩ := R3.tt
      injection e0 with e0 _ _
      subst e0
      obtain ⟨A4', c4', e4, n4, hI⟩ := bas_own2 O3 (by omega)
      injection e4 with e4 _ e5
      subst e4
      subst e5
      refine ⟨A0, _, A4, c0, c5, c4, by rw [HL5.out]; rfl, hM, ⟨g5, rfl, FrRow.congr F3 fun j hj => ?_⟩, hI, n4⟩
      show (if j < c.length then rl c j else 0) = if j < c.length + R.length then (if j < c.length then rl c j else 0) else -0
      split
      ·rw [if_pos (by omega)]
      ·split <;> simp
     ·exact ((HE.out.setCell (p := ⟨RB, 0, none⟩) HLE.out _).setCell (p := ⟨RB, 1, none⟩) HLE.out _).setCell (p := ⟨RB, 2, none⟩) HLE.out _

end Go.Proofs.YtaampjhdgeoicaaGreat
