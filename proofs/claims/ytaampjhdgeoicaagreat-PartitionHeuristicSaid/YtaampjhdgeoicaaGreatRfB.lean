/- The reference's minus. -/
import Derived.Test.YtaampjhdgeoicaaGreatMfA
import Derived.Test.YtaampjhdgeoicaaGreatRfA
namespace Go.Proofs.YtaampjhdgeoicaaGreat
set_option linter.unusedSimpArgs false
set_option linter.unusedVariables false
open Go Go.RowKit
set_option linter.unusedVariables false


def MnRet (g h : Nat → Rat) (φ : Rat) (N : Nat) (e : Ending) (w' : World) : Prop := (¬ ElOK N g h φ ∧ e = .returned (.tuple #[.slice none 0 0, .bool false])) ∨ (ElOK N g h φ ∧ ∃ b, e = .returned (.tuple #[.slice (some ⟨b, 0, none⟩) N N, .bool true]) ∧ FrRow w' b N (fun j => g j - φ * h j))

set_option maxRecDepth 100000 in
set_option maxHeartbeats 8000000 in
theorem minus_any (g h : Nat → Rat) (φ : Rat) (N : Nat) (A A2 : Option Addr) (ca c2 : Nat) (w : World) (hg : FactsAt w w.heap.size A (frq g N)) (hh : FactsAt w w.heap.size A2 (frq h N)) (hrg : ∀ j, j < N → Rep (g j)) (hrh : ∀ j, j < N → Rep (h j)) (hφ : Rep φ) (hN : N ≤ 100) :
  Calls Tryz.prog 108 #[.slice A N ca, .agg #[.int .i64 φ.num, .int .i64 φ.den], .slice A2 N c2] w fun e w' => MnRet g h φ N e w' ∧ Below w.heap.size w w' := by
 have HF := Lib.hid hg
 have HF2 := Lib.hid hh
 have Hmk := make_rw N hN
 have KM := Lib.hid (fun j (hj : j < N) wx => (by have := rmul_any φ.num φ.den (h j).num (h j).den wx; rw [mulF_rep hφ (hrh j hj)] at this; exact this : Calls Tryz.prog 119 #[.agg #[.int .i64 φ.num, .int .i64 φ.den], .agg #[.int .i64 (h j).num, .int .i64 (h j).den]] wx (RetFC (toF (φ * h j)) wx)))
 have KN := Lib.hid (fun j (hp : Rep (φ * h j)) wx => (neg_any (φ * h j).num (φ * h j).den wx (by have := hp.1; unfold aI at this; omega) (by have := hp.1; unfold aI at this; omega)))
 have KA := Lib.hid (fun j (hj : j < N) (hp : Rep (φ * h j)) wx => (by have := radd_any (g j).num (g j).den (-(φ * h j)).num (-(φ * h j)).den wx; rw [addF_rep (hrg j hj) (rep_neg.2 hp), Rat.neg_num, Rat.neg_den, ← Rat.sub_eq_add_neg] at this; exact this : Calls Tryz.prog 86 #[.agg #[.int .i64 (g j).num, .int .i64 (g j).den], .agg #[.int .i64 (-(φ * h j).num), .int .i64 (φ * h j).den]] wx (RetFC (toF (g j - φ * h j)) wx)))
 obtain ⟨φn, hφn⟩ : ∃ φn, φn = φ.num := ⟨_, rfl⟩
 obtain ⟨φd, hφd⟩ : ∃ φd, φd = (φ.den : Int) := ⟨_, rfl⟩
 rw [← hφn, ← hφd] at KM ⊢
 clear hg hh hrg hrh hφ hφn hφd
 go_enter Tryz.func108, Tryz.ntmps108
 go_wp2
 clear Hmk
 have hV0 : Own2 (w.alloc (.cells #[.int .i64 φn, .int .i64 φd] 45)) w.heap.size φn φd := Own2.new
 have hb0 : Below w.heap.size w (w.alloc (.cells #[.int .i64 φn, .int .i64 φd] 45)) := (Below.refl _ _).alloc (Nat.le_refl _) _
 have hR0 := zrow_row2 w (.cells #[.int .i64 φn, .int .i64 φd] 45) N
 have hb1 : Below (w.alloc (.cells #[.int .i64 φn, .int .i64 φd] 45)).heap.size (w.alloc (.cells #[.int .i64 φn, .int .i64 φd] 45)) ((w.alloc (.cells #[.int .i64 φn, .int .i64 φd] 45)).alloc (.cells (zrow N) 45)) := (Below.refl _ _).alloc (Nat.le_refl _) _
 obtain ⟨w1, hw1⟩ : ∃ w1, w1 = w.alloc (.cells #[.int .i64 φn, .int .i64 φd] 45) := ⟨_, rfl⟩
 have hgs : w1.heap.size = w.heap.size + 1 := by rw [hw1]; simp
 rw [← hw1] at hV0 hb0 hR0 hb1 ⊢
 rw [← hgs] at hR0 ⊢
 obtain ⟨FB, hFB⟩ : ∃ FB, FB = w.heap.size := ⟨_, rfl⟩
 obtain ⟨G, hgg⟩ : ∃ G, G = w1.heap.size := ⟨_, rfl⟩
 rw [← hFB] at hV0 ⊢
 rw [← hgg] at hR0 ⊢
 have hg1 : w1.heap.size ≤ G := by omega
 have hVlt := hV0.lt
 have hgFB : FB < G := by omega
 have zw1 := hb0.size
 clear hw1 hgs hgg hFB
 go_loopw [17] (fun i wr => ∃ j : Nat, j ≤ N ∧ i = .int .i64 j ∧ Hid (∀ t, t < j → Rep (φ * h t) ∧ Rep (g t - φ * h t)) ∧ Hid (rowGe wr G 45 (N * 2) (prg j fun t => g t - φ * h t)) ∧ Below w1.heap.size w1 wr) (fun i _ => N - (intOf i).toNat)
 case atStart => exact ⟨0, by omega, rfl, Lib.hid (fun t ht => absurd ht (by omega)), Lib.hid (prg_start hR0), hb1⟩
 case round =>
  clear hb1 hR0
  obtain ⟨j, hj, rfl, hrep, hrow, hbel⟩ := hrel
  obtain ⟨wu, hwu⟩ : ∃ wu : World, wu = wr := ⟨_, rfl⟩
  rw [← hwu] at hrow hbel ⊢
  clear hwu
  have zu := hbel.size
  have hbw := hb0.trans (hbel.mono zw1)
  by_cases hlt : j < N
  ·obtain ⟨b1, o1, ea, hb1, hc1⟩ := HF.out.at_ (by rw [frq_len]; exact hlt)
   obtain ⟨b2, o2, eb, hb2, hc2⟩ := HF2.out.at_ (by rw [frq_len]; exact hlt)
   subst ea
   subst eb
   have hc := hc1 j (by rw [frq_len]; exact hlt)
   rw [(frq_at hlt).1, (frq_at hlt).2] at hc
   have d1 := (hbw.cell (p := ⟨b1, o1 + j * 2, none⟩) hb1).trans hc.1
   have d2 := (hbw.cell (p := ⟨b1, o1 + j * 2 + 1, none⟩) hb1).trans hc.2
   have g1 : b1 < wu.heap.size := by have := hbw.size; omega
   have hc' := hc2 j (by rw [frq_len]; exact hlt)
   rw [(frq_at hlt).1, (frq_at hlt).2] at hc'
   have e1 := (hbw.cell (p := ⟨b2, o2 + j * 2, none⟩) hb2).trans hc'.1
   have e2 := (hbw.cell (p := ⟨b2, o2 + j * 2 + 1, none⟩) hb2).trans hc'.2
   have g2 : b2 < wu.heap.size := by have := hbw.size; omega
   have j0 : (0 : Int) ≤ (j : Int) := by omega
   have j1 : (j : Int) < (N : Int) := by omega
   obtain ⟨t0, t1, t2, _, _⟩ := id (hV0.up hbel)
   have kk := KM.out j hlt
   have HL := Lib.hid hlt
   clear hc1 hc hc2 hc'
   by_cases hrj : Rep (φ * h j)
   ·rw [rep_toF hrj] at kk
    unfold RetFC at kk
    dsimp only at kk
    have kN := KN.out j hrj
    have kA := KA.out j hlt hrj
    have HRJ := Lib.hid hrj
    obtain ⟨p, hp⟩ : ∃ p, p = (φ * h j).num := ⟨_, rfl⟩
    obtain ⟨q, hq⟩ : ∃ q, q = ((φ * h j).den : Int) := ⟨_, rfl⟩
    rw [← hp, ← hq] at kk kN kA
    have K5 := Lib.hid kk
    have K7 := Lib.hid kN
    have KA8 := Lib.hid kA
    clear kk hp hq hrj kN kA
    go_wp2_with fail
    refine wp_region_G 5 (fun w' => ∀ b o, w'.cell? ⟨b, o, none⟩ = if b < wu.heap.size then wu.cell? ⟨b, o, none⟩ else hidC w' b o) (by kernel_rfl) (cif (B := wu.heap.size) (W := wu) (Below.refl _ _).drew) ?_
    apply merge2 (F := fun (wC : World) (H : Nat) => (Own2 wC H p q) ∧ (Below wu.heap.size wu wC))
    ·intro nd5_9_10
     apply merge2 (F := fun (wC : World) (H : Nat) => (RSt wu wC (some H)))
     ·intro nd5_9
      apply merge1 (F := fun (wC : World) => (RSt wu wC none))
      ·intro nd5
       apply merge2 (F := fun (wC : World) (H : Nat) => (RSt wu wC (some H)))
       ·intro nd9
        intro g0
        have ST := Lib.hid (RSt.start wu)
        generalize World.drew wu = wC at ST g0 ⊢
        refine wpS2 0 g0 ?_; intro g1; clear g0
        refine wpS1 1 g1 ?_; intro g2; clear g1
        refine wpS1 2 g2 ?_; intro g3; clear g2
        refine wpS1 3 g3 ?_; intro g4; clear g3
        refine wpS2 4 g4 ?_; intro g5; clear g4
        have g00 := g5; clear g5; have g0 := g00; clear g00
        refine wpAnyG_ready (rs := [5, 9]) (by kernel_rfl) (by simp) (AllG.cons rfl g0 (fun K hK => ?_) (AllG.cons rfl g0 (fun K hK => ?_) AllG.nil))
        ·go_simp; go_at_call 119; refine (K5.out _).mono ?_; rintro e wN ⟨rfl, hb⟩; have ST' := ST.out.up hb; clear hb; clear ST; have ST := Lib.hid ST'; clear ST'
         refine hK.out _ _ (Or.inl rfl) (fun g1 => wpN ?_); clear hK g0
         refine wpS1 6 g1 ?_; intro g2; clear g1
         refine wpS1 7 g2 ?_; intro g3; clear g2
         refine wpS1 8 g3 ?_; intro g4; clear g3
         exact node_here (nd5 wN ST.out) g4
        ·go_simp; refine ST.out.k9 (fun wN ST' => ?_); generalize wC.heap.size = H at ST' ⊢; clear ST; have ST := Lib.hid ST'; clear ST'
         refine hK.out _ _ (Or.inr (cif ST.out.bel)) (fun g1 => wpN ?_); clear hK g0
         exact node_here (nd9 wN H ST.out) g1
       ·rintro wC H f0 g0
        have ST := Lib.hid f0; clear f0
        refine wpAnyG_ready (rs := [5]) (by kernel_rfl) (by simp) (AllG.cons rfl g0 (fun K hK => ?_) AllG.nil)
        ·go_simp; go_at_call 119; refine (K5.out _).mono ?_; rintro e wN ⟨rfl, hb⟩; have ST' := ST.out.up hb; clear hb; clear ST; have ST := Lib.hid ST'; clear ST'
         refine hK.out _ _ (Or.inl rfl) (fun g1 => wpN ?_); clear hK g0
         refine wpS1 6 g1 ?_; intro g2; clear g1
         refine wpS1 7 g2 ?_; intro g3; clear g2
         refine wpS1 8 g3 ?_; intro g4; clear g3
         exact node_here (nd5_9 wN H ST.out) g4
      ·rintro wC f0 g0
       have ST := Lib.hid f0; clear f0
       refine wpAnyG_ready (rs := [9]) (by kernel_rfl) (by simp) (AllG.cons rfl g0 (fun K hK => ?_) AllG.nil)
       ·go_simp; refine ST.out.k9 (fun wN ST' => ?_); generalize wC.heap.size = H at ST' ⊢; clear ST; have ST := Lib.hid ST'; clear ST'
        refine hK.out _ _ (Or.inl rfl) (fun g1 => wpN ?_); clear hK g0
        exact node_move (by kernel_rfl) (nd5_9 wN H ST.out) g1
     ·rintro wC H f0 g0
      have ST := Lib.hid f0; clear f0
      refine wpAnyG_ready (rs := [10]) (by kernel_rfl) (by simp) (AllG.cons rfl g0 (fun K hK => ?_) AllG.nil)
      ·obtain ⟨hX, hXb⟩ := ST.out.box _ rfl; obtain ⟨y0, y1, y2, y3, y4⟩ := id hX; go_simp; obtain ⟨wN, hwN⟩ : ∃ wN, wN = (wC.setCell ⟨H, 0, none⟩ (.int .i64 p)).setCell ⟨H, 1, none⟩ (.int .i64 q) := ⟨_, rfl⟩; have HX := Lib.hid (show Own2 wN H p q by rw [hwN]; exact hX.put); have HE1 := Lib.hid (show Below wu.heap.size wu wN by rw [hwN]; exact (ST.out.bel.setCell hXb _).setCell hXb _); rw [← hwN]; clear hwN y0 y1 y2 y3 y4 hX hXb ST
       refine hK.out _ _ (Or.inl rfl) (fun g1 => wpN ?_); clear hK g0
       refine wpS1 11 g1 ?_; intro g2; clear g1
       exact node_here (nd5_9_10 wN H ⟨HX.out, HE1.out⟩) g2
    ·rintro wC H ⟨f0, f1⟩ g0
     have HX := Lib.hid f0; clear f0
     have HE1 := Lib.hid f1; clear f1
     refine wpAnyG_done (by kernel_rfl) ?_ _; clear g0
     generalize wC = wv at HX HE1 ⊢
     obtain ⟨x0, x1, x2, _, _⟩ := id HX.out
     have Hr := Lib.hid (rowGe.up hrow.out HE1.out)
     have r4 := rowGe.lt Hr.out
     have HB2 := Lib.hid (hbel.trans (HE1.out.mono zu))
     have HZ2 := Lib.hid HB2.out.size
     have zv := HE1.out.size
     have d1 := (HE1.out.cell (p := ⟨b1, o1 + j * 2, none⟩) g1).trans d1
     have d2 := (HE1.out.cell (p := ⟨b1, o1 + j * 2 + 1, none⟩) g1).trans d2
     have g1 : b1 < wv.heap.size := by omega
     clear t0 t1 t2 e1 e2 g2
     have kA := KA8.out
     by_cases hrs : Rep (g j - φ * h j)
     ·rw [rep_toF hrs] at kA
      unfold RetFC at kA
      dsimp only at kA
      obtain ⟨x, hx⟩ : ∃ x, x = (g j - φ * h j).num := ⟨_, rfl⟩
      obtain ⟨y, hy⟩ : ∃ y, y = ((g j - φ * h j).den : Int) := ⟨_, rfl⟩
      rw [← hx, ← hy] at kA
      have K8 := Lib.hid kA
      have HP := Lib.hid hx
      have HQ := Lib.hid hy
      have HR2 := Lib.hid (show ∀ t, t < j + 1 → Rep (φ * h t) ∧ Rep (g t - φ * h t) from fun t ht => by
       by_cases e : t = j
       ·subst e; exact ⟨HRJ.out, hrs⟩
       ·exact hrep.out t (by omega))
      clear kA hx hy hrs
      go_wp2_with fail
      refine wp_region_G 8 (fun w' => ∀ b o, w'.cell? ⟨b, o, none⟩ = if b < wv.heap.size then wv.cell? ⟨b, o, none⟩ else hidC w' b o) (by kernel_rfl) (cif (B := wv.heap.size) (W := wv) (Below.refl _ _).drew) ?_
      apply merge1 (F := fun (wC : World) => (rowGe wC G 45 (N * 2) (prg (j + 1) fun t => g t - φ * h t)) ∧ (Below w1.heap.size w1 wC))
      ·intro nd7_8_13
       apply merge1 (F := fun (wC : World) => (RSt wv wC none))
       ·intro nd7_8
        apply merge1 (F := fun (wC : World) => (RSt wv wC none))
        ·intro nd7
         intro g0
         have ST := Lib.hid (RSt.start wv)
         generalize World.drew wv = wC at ST g0 ⊢
         refine wpS1 0 g0 ?_; intro g1; clear g0
         refine wpS1 1 g1 ?_; intro g2; clear g1
         refine wpS1 2 g2 ?_; intro g3; clear g2
         refine wpS1 3 g3 ?_; intro g4; clear g3
         refine wpS1 4 g4 ?_; intro g5; clear g4
         refine wpS2 5 g5 ?_; intro g6; clear g5
         refine wpS2 6 g6 ?_; intro g7; clear g6
         have g00 := g7; clear g7; have g0 := g00; clear g00
         refine wpAnyG_ready (rs := [7]) (by kernel_rfl) (by simp) (AllG.cons rfl g0 (fun K hK => ?_) AllG.nil)
         ·go_simp; go_at_call 85; refine (K7.out _).mono ?_; rintro e wN ⟨rfl, hb⟩; have ST' := ST.out.up hb; clear hb; clear ST; have ST := Lib.hid ST'; clear ST'
          refine hK.out _ _ (Or.inr (cif ST.out.bel)) (fun g1 => wpN ?_); clear hK g0
          exact node_here (nd7 wN ST.out) g1
        ·rintro wC f0 g0
         have ST := Lib.hid f0; clear f0
         refine wpAnyG_ready (rs := [8]) (by kernel_rfl) (by simp) (AllG.cons rfl g0 (fun K hK => ?_) AllG.nil)
         ·go_simp; go_at_call 86; refine (K8.out _).mono ?_; rintro e wN ⟨rfl, hb⟩; have ST' := ST.out.up hb; clear hb; clear ST; have ST := Lib.hid ST'; clear ST'
          refine hK.out _ _ (Or.inl rfl) (fun g1 => wpN ?_); clear hK g0
          refine wpS1 9 g1 ?_; intro g2; clear g1
          refine wpS1 10 g2 ?_; intro g3; clear g2
          refine wpS1 11 g3 ?_; intro g4; clear g3
          refine wpS1 12 g4 ?_; intro g5; clear g4
          exact node_here (nd7_8 wN ST.out) g5
       ·rintro wC f0 g0
        have ST := Lib.hid f0; clear f0
        refine wpAnyG_ready (rs := [13]) (by kernel_rfl) (by simp) (AllG.cons rfl g0 (fun K hK => ?_) AllG.nil)
        ·have hrw := rowGe.up Hr.out ST.out.bel; obtain ⟨r0, r1⟩ := prg_cell hrw HL.out; have r2 := rowGe.frozen hrw (j * 2); have r3 := rowGe.frozen hrw (j * 2 + 1); have r4 := rowGe.lt hrw; go_simp; obtain ⟨wN, hwN⟩ : ∃ wN, wN = (wC.setCell ⟨G, j * 2, none⟩ (.int .i64 x)).setCell ⟨G, j * 2 + 1, none⟩ (.int .i64 y) := ⟨_, rfl⟩; have HX := Lib.hid (show rowGe wN G 45 (N * 2) (prg (j + 1) fun t => g t - φ * h t) by rw [hwN]; exact prg_step hrw HP.out HQ.out); have HE1 := Lib.hid (show Below w1.heap.size w1 wN by rw [hwN]; exact ((HB2.out.trans (ST.out.bel.mono HZ2.out)).setCell (p := ⟨G, j * 2, none⟩) hg1 _).setCell (p := ⟨G, j * 2 + 1, none⟩) hg1 _); rw [← hwN]; clear hwN r0 r1 r2 r3 r4 hrw ST
         refine hK.out _ _ (Or.inl rfl) (fun g1 => wpN ?_); clear hK g0
         refine wpS1 14 g1 ?_; intro g2; clear g1
         exact node_here (nd7_8_13 wN ⟨HX.out, HE1.out⟩) g2
      ·rintro wC ⟨f0, f1⟩ g0
       have HX := Lib.hid f0; clear f0
       have HE1 := Lib.hid f1; clear f1
       refine wpAnyG_done (by kernel_rfl) ?_ _; clear g0
       go_wp2
       go_roundw
       case rel => exact ⟨j + 1, by omega, by go_num, HR2, HX, HE1.out⟩
       case measure => simp [intOf]; omega
     ·have HE := Lib.hid (show ∀ w', MnRet g h φ N (.returned (.tuple #[.slice none 0 0, .bool false])) w' from fun w' => .inl ⟨fun hE => hrs (hE j hlt).2, rfl⟩)
      rw [not_rep hrs] at kA
      unfold RetFC at kA
      dsimp only at kA
      have K8 := Lib.hid kA
      clear kA hrs
      go_wp2_with fail
      refine wp_region_G 8 (fun w' => ∀ b o, w'.cell? ⟨b, o, none⟩ = if b < wv.heap.size then wv.cell? ⟨b, o, none⟩ else hidC w' b o) (by kernel_rfl) (cif (B := wv.heap.size) (W := wv) (Below.refl _ _).drew) ?_
      apply merge1 (F := fun (wC : World) => (Below w1.heap.size w1 wC))
      ·intro nd7_8_13
       apply merge1 (F := fun (wC : World) => (RSt wv wC none))
       ·intro nd7_8
        apply merge1 (F := fun (wC : World) => (RSt wv wC none))
        ·intro nd7
         intro g0
         have ST := Lib.hid (RSt.start wv)
         generalize World.drew wv = wC at ST g0 ⊢
         refine wpS1 0 g0 ?_; intro g1; clear g0
         refine wpS1 1 g1 ?_; intro g2; clear g1
         refine wpS1 2 g2 ?_; intro g3; clear g2
         refine wpS1 3 g3 ?_; intro g4; clear g3
         refine wpS1 4 g4 ?_; intro g5; clear g4
         refine wpS2 5 g5 ?_; intro g6; clear g5
         refine wpS2 6 g6 ?_; intro g7; clear g6
         have g00 := g7; clear g7; have g0 := g00; clear g00
         refine wpAnyG_ready (rs := [7]) (by kernel_rfl) (by simp) (AllG.cons rfl g0 (fun K hK => ?_) AllG.nil)
         ·go_simp; go_at_call 85; refine (K7.out _).mono ?_; rintro e wN ⟨rfl, hb⟩; have ST' := ST.out.up hb; clear hb; clear ST; have ST := Lib.hid ST'; clear ST'
          refine hK.out _ _ (Or.inr (cif ST.out.bel)) (fun g1 => wpN ?_); clear hK g0
          exact node_here (nd7 wN ST.out) g1
        ·rintro wC f0 g0
         have ST := Lib.hid f0; clear f0
         refine wpAnyG_ready (rs := [8]) (by kernel_rfl) (by simp) (AllG.cons rfl g0 (fun K hK => ?_) AllG.nil)
         ·go_simp; go_at_call 86; refine (K8.out _).mono ?_; rintro e wN ⟨rfl, hb⟩; have ST' := ST.out.up hb; clear hb; clear ST; have ST := Lib.hid ST'; clear ST'
          refine hK.out _ _ (Or.inl rfl) (fun g1 => wpN ?_); clear hK g0
          refine wpS1 9 g1 ?_; intro g2; clear g1
          refine wpS1 10 g2 ?_; intro g3; clear g2
          refine wpS1 11 g3 ?_; intro g4; clear g3
          refine wpS1 12 g4 ?_; intro g5; clear g4
          exact node_here (nd7_8 wN ST.out) g5
       ·rintro wC f0 g0
        have ST := Lib.hid f0; clear f0
        refine wpAnyG_ready (rs := [13]) (by kernel_rfl) (by simp) (AllG.cons rfl g0 (fun K hK => ?_) AllG.nil)
        ·have hrw := rowGe.up Hr.out ST.out.bel; obtain ⟨r0, r1⟩ := prg_cell hrw HL.out; have r2 := rowGe.frozen hrw (j * 2); have r3 := rowGe.frozen hrw (j * 2 + 1); have r4 := rowGe.lt hrw; go_simp; obtain ⟨wN, hwN⟩ : ∃ wN, wN = (wC.setCell ⟨G, j * 2, none⟩ (.int .i64 0)).setCell ⟨G, j * 2 + 1, none⟩ (.int .i64 0) := ⟨_, rfl⟩; have HE1 := Lib.hid (show Below w1.heap.size w1 wN by rw [hwN]; exact ((HB2.out.trans (ST.out.bel.mono HZ2.out)).setCell (p := ⟨G, j * 2, none⟩) hg1 _).setCell (p := ⟨G, j * 2 + 1, none⟩) hg1 _); rw [← hwN]; clear hwN r0 r1 r2 r3 r4 hrw ST
         refine hK.out _ _ (Or.inl rfl) (fun g1 => wpN ?_); clear hK g0
         refine wpS1 14 g1 ?_; intro g2; clear g1
         exact node_here (nd7_8_13 wN HE1.out) g2
      ·rintro wC f0 g0
       have HE1 := Lib.hid f0; clear f0
       refine wpAnyG_done (by kernel_rfl) ?_ _; clear g0
       have hb3 := hb0.trans (HE1.out.mono zw1)
       go_wp2
       refine bodyPost_ret (v := .tuple #[.slice none 0 0, .bool false]) (by simp [results, Tryz.results108, go_sem]) rfl ⟨HE.out _, hb3⟩
   ·have HE := Lib.hid (show ∀ w', MnRet g h φ N (.returned (.tuple #[.slice none 0 0, .bool false])) w' from fun w' => .inl ⟨fun hE => hrj (hE j hlt).1, rfl⟩)
    rw [not_rep hrj] at kk
    unfold RetFC at kk
    dsimp only at kk
    have K5 := Lib.hid kk
    clear kk hrj
    go_wp2_with fail
    refine wp_region_G 5 (fun w' => ∀ b o, w'.cell? ⟨b, o, none⟩ = if b < wu.heap.size then wu.cell? ⟨b, o, none⟩ else hidC w' b o) (by kernel_rfl) (cif (B := wu.heap.size) (W := wu) (Below.refl _ _).drew) ?_
    apply merge2 (F := fun (wC : World) (H : Nat) => (Own2 wC H 0 0) ∧ (Below wu.heap.size wu wC))
    ·intro nd5_9_10
     apply merge2 (F := fun (wC : World) (H : Nat) => (RSt wu wC (some H)))
     ·intro nd5_9
      apply merge1 (F := fun (wC : World) => (RSt wu wC none))
      ·intro nd5
       apply merge2 (F := fun (wC : World) (H : Nat) => (RSt wu wC (some H)))
       ·intro nd9
        intro g0
        have ST := Lib.hid (RSt.start wu)
        generalize World.drew wu = wC at ST g0 ⊢
        refine wpS2 0 g0 ?_; intro g1; clear g0
        refine wpS1 1 g1 ?_; intro g2; clear g1
        refine wpS1 2 g2 ?_; intro g3; clear g2
        refine wpS1 3 g3 ?_; intro g4; clear g3
        refine wpS2 4 g4 ?_; intro g5; clear g4
        have g00 := g5; clear g5; have g0 := g00; clear g00
        refine wpAnyG_ready (rs := [5, 9]) (by kernel_rfl) (by simp) (AllG.cons rfl g0 (fun K hK => ?_) (AllG.cons rfl g0 (fun K hK => ?_) AllG.nil))
        ·go_simp; go_at_call 119; refine (K5.out _).mono ?_; rintro e wN ⟨rfl, hb⟩; have ST' := ST.out.up hb; clear hb; clear ST; have ST := Lib.hid ST'; clear ST'
         refine hK.out _ _ (Or.inl rfl) (fun g1 => wpN ?_); clear hK g0
         refine wpS1 6 g1 ?_; intro g2; clear g1
         refine wpS1 7 g2 ?_; intro g3; clear g2
         refine wpS1 8 g3 ?_; intro g4; clear g3
         exact node_here (nd5 wN ST.out) g4
        ·go_simp; refine ST.out.k9 (fun wN ST' => ?_); generalize wC.heap.size = H at ST' ⊢; clear ST; have ST := Lib.hid ST'; clear ST'
         refine hK.out _ _ (Or.inr (cif ST.out.bel)) (fun g1 => wpN ?_); clear hK g0
         exact node_here (nd9 wN H ST.out) g1
       ·rintro wC H f0 g0
        have ST := Lib.hid f0; clear f0
        refine wpAnyG_ready (rs := [5]) (by kernel_rfl) (by simp) (AllG.cons rfl g0 (fun K hK => ?_) AllG.nil)
        ·go_simp; go_at_call 119; refine (K5.out _).mono ?_; rintro e wN ⟨rfl, hb⟩; have ST' := ST.out.up hb; clear hb; clear ST; have ST := Lib.hid ST'; clear ST'
         refine hK.out _ _ (Or.inl rfl) (fun g1 => wpN ?_); clear hK g0
         refine wpS1 6 g1 ?_; intro g2; clear g1
         refine wpS1 7 g2 ?_; intro g3; clear g2
         refine wpS1 8 g3 ?_; intro g4; clear g3
         exact node_here (nd5_9 wN H ST.out) g4
      ·rintro wC f0 g0
       have ST := Lib.hid f0; clear f0
       refine wpAnyG_ready (rs := [9]) (by kernel_rfl) (by simp) (AllG.cons rfl g0 (fun K hK => ?_) AllG.nil)
       ·go_simp; refine ST.out.k9 (fun wN ST' => ?_); generalize wC.heap.size = H at ST' ⊢; clear ST; have ST := Lib.hid ST'; clear ST'
        refine hK.out _ _ (Or.inl rfl) (fun g1 => wpN ?_); clear hK g0
        exact node_move (by kernel_rfl) (nd5_9 wN H ST.out) g1
     ·rintro wC H f0 g0
      have ST := Lib.hid f0; clear f0
      refine wpAnyG_ready (rs := [10]) (by kernel_rfl) (by simp) (AllG.cons rfl g0 (fun K hK => ?_) AllG.nil)
      ·obtain ⟨hX, hXb⟩ := ST.out.box _ rfl; obtain ⟨y0, y1, y2, y3, y4⟩ := id hX; go_simp; obtain ⟨wN, hwN⟩ : ∃ wN, wN = (wC.setCell ⟨H, 0, none⟩ (.int .i64 0)).setCell ⟨H, 1, none⟩ (.int .i64 0) := ⟨_, rfl⟩; have HX := Lib.hid (show Own2 wN H 0 0 by rw [hwN]; exact hX.put); have HE1 := Lib.hid (show Below wu.heap.size wu wN by rw [hwN]; exact (ST.out.bel.setCell hXb _).setCell hXb _); rw [← hwN]; clear hwN y0 y1 y2 y3 y4 hX hXb ST
       refine hK.out _ _ (Or.inl rfl) (fun g1 => wpN ?_); clear hK g0
       refine wpS1 11 g1 ?_; intro g2; clear g1
       exact node_here (nd5_9_10 wN H ⟨HX.out, HE1.out⟩) g2
    ·rintro wC H ⟨f0, f1⟩ g0
     have HX := Lib.hid f0; clear f0
     have HE1 := Lib.hid f1; clear f1
     refine wpAnyG_done (by kernel_rfl) ?_ _; clear g0
     have hb2 := hbel.trans (HE1.out.mono zu)
     have hb3 := hb0.trans (hb2.mono zw1)
     clear d1 d2 t0 t1 t2 g1 e1 e2 g2
     go_wp2
     refine bodyPost_ret (v := .tuple #[.slice none 0 0, .bool false]) (by simp [results, Tryz.results108, go_sem]) rfl ⟨HE.out _, hb3⟩
  ·obtain rfl : N = j := by omega
   have HE := Lib.hid (show MnRet g h φ N (.returned (.tuple #[.slice (some ⟨G, 0, none⟩) N N, .bool true])) wu from .inr ⟨hrep.out, G, rfl, prg_end hrow.out⟩)
   go_wp2
   refine bodyPost_ret (v := .tuple #[.slice (some ⟨G, 0, none⟩) N N, .bool true]) (by simp [results, Tryz.results108, go_sem]) rfl ⟨HE.out, hbw⟩

end Go.Proofs.YtaampjhdgeoicaaGreat
