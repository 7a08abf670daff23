/- simplex: eliminate. -/
import Derived.Test.YtaampjhdgeoicaaGreatMfA
import Derived.Test.YtaampjhdgeoicaaGreatSxB
namespace Go.Proofs.YtaampjhdgeoicaaGreat
set_option linter.unusedSimpArgs false
set_option linter.unusedVariables false
open Go Go.RowKit
set_option linter.unusedVariables false

def ElOK (N : Nat) (g h : Nat → Rat) (f : Rat) : Prop := ∀ j, j < N → Rep (f * h j) ∧ Rep (g j - f * h j)
theorem lsF_ok {x f y : Rat} (h1 : Rep (f * y)) (h2 : Rep (x - f * y)) : lsF x f y = ((x - f * y).num, ((x - f * y).den : Int), 0) := by unfold lsF; rw [if_pos h1, rep_toF h2]
theorem lsF_no {x f y : Rat} (h : ¬ (Rep (f * y) ∧ Rep (x - f * y))) : lsF x f y = (0, 0, 5) := by
 unfold lsF
 by_cases h1 : Rep (f * y)
 ·rw [if_pos h1, not_rep fun h2 => h ⟨h1, h2⟩]
 ·rw [if_neg h1]
def ElRet (N : Nat) (g h : Nat → Rat) (f : Rat) (b1 : Nat) (e : Ending) (w' : World) : Prop :=
 (e = .returned .nilIface ∧ ElOK N g h f ∧ FrRow w' b1 N fun j => g j - f * h j) ∨ (e = .returned (.iface 49 (.int .i64 5)) ∧ ¬ ElOK N g h f)

set_option maxRecDepth 100000 in
set_option maxHeartbeats 4000000 in
theorem elim_any (g h : Nat → Rat) (f : Rat) (N b1 b2 c1 c2 : Nat) (w : World) (hN : N ≤ 200) (h1 : FrRow w b1 N g) (h2 : FrRow w b2 N h) (hne : b1 ≠ b2) (hf : Rep f) (hg : ∀ j, j < N → Rep (g j)) (hh : ∀ j, j < N → Rep (h j)) :
  Calls Tryz.prog 115 #[.slice (some ⟨b1, 0, none⟩) N c1, .slice (some ⟨b2, 0, none⟩) N c2, .agg #[.int .i64 f.num, .int .i64 f.den]] w fun e w' => ElRet N g h f b1 e w' ∧ Kw b1 (b1 + 1) w w' := by
 have KL := Lib.hid (fun j hj wx => less_any (g j) f (h j) wx (hg j hj) hf (hh j hj))
 have hb1 := h1.lt
 have hb2 := h2.lt
 have H1 := Lib.hid h1
 have H2 := Lib.hid h2
 clear h1 h2 hg hh hf
 go_enter Tryz.func115, Tryz.ntmps115
 go_wp2
 go_loopw [12] (fun i wr => ∃ k : Nat, k ≤ N ∧ i = .int .i64 k ∧ Hid (FrRow wr b1 N fun j => if j < k then g j - f * h j else g j) ∧ Hid (∀ j, j < k → Rep (f * h j) ∧ Rep (g j - f * h j)) ∧ Kw b1 (b1 + 1) (w.alloc (.cells #[.int .i64 f.num, .int .i64 f.den] 45)) wr) (fun i _ => N - (intOf i).toNat)
 case atStart => exact ⟨0, by omega, rfl, Lib.hid ((H1.out.up ((Below.refl _ _).alloc (Nat.le_refl _) _)).congr fun j _ => by rw [if_neg (by omega)]), Lib.hid (fun j hj => absurd hj (by omega)), Kw.refl _ _ _⟩
 case round =>
  obtain ⟨k, hk, rfl, hrow, hok, hkw⟩ := hrel
  have kz := hkw.size
  simp only [World.size_alloc] at kz
  have hkw0 : Kw b1 (b1 + 1) w wr := (Kw.of_below ((Below.refl _ _).alloc (Nat.le_refl _) _)).trans hkw
  by_cases hlt : k < N
  ·have d0 := hrow.out.num hlt
   have d1 := hrow.out.den hlt
   simp only [if_neg (show ¬ k < k by omega)] at d0 d1
   have f0 := hrow.out.frozen (k * 2)
   have f1 := hrow.out.frozen (k * 2 + 1)
   have H2r := hkw0.row H2.out (by omega)
   have d2 := FrRow.num H2r hlt
   have d3 := FrRow.den H2r hlt
   have g1 : b1 < wr.heap.size := by omega
   have g2 : b2 < wr.heap.size := by omega
   have g3 : w.heap.size < wr.heap.size := by omega
   have t0 : wr.cell? ⟨w.heap.size, 0, none⟩ = some (.int .i64 f.num) := (hkw.cell (p := ⟨w.heap.size, 0, none⟩) (by simp) (by show w.heap.size < _ ∨ _ ≤ w.heap.size; omega)).trans (by simp)
   have t1 : wr.cell? ⟨w.heap.size, 1, none⟩ = some (.int .i64 f.den) := (hkw.cell (p := ⟨w.heap.size, 1, none⟩) (by simp) (by show w.heap.size < _ ∨ _ ≤ w.heap.size; omega)).trans (by simp)
   have k0 : (0 : Int) ≤ (k : Int) := by omega
   have k1 : (k : Int) < (N : Int) := by omega
   have KK := Lib.hid (KL.out k hlt)
   clear H2r
   by_cases hp : Rep (f * h k) ∧ Rep (g k - f * h k)
   ·have Hp := Lib.hid hp
    have kk := KK.out
    unfold RetFE at kk
    rw [lsF_ok hp.1 hp.2] at kk
    simp only [errV_0] at kk
    obtain ⟨x, hx⟩ : ∃ x, g k - f * h k = x := ⟨_, rfl⟩
    rw [hx] at kk
    have K5 := Lib.hid kk
    have Hx := Lib.hid hx
    clear kk hx hp KK
    go_wp2_with fail
    refine wp_region_G 9 (fun w' => ∀ b o, w'.cell? ⟨b, o, none⟩ = if b < wr.heap.size then wr.cell? ⟨b, o, none⟩ else hidC w' b o) (by kernel_rfl) (cif (B := wr.heap.size) (W := wr) (Below.refl _ _).drew) ?_
    intro hG0
    refine wpS1 0 hG0 ?_; intro hG1; clear hG0
    refine wpS1 1 hG1 ?_; intro hG2; clear hG1
    refine wpS1 2 hG2 ?_; intro hG3; clear hG2
    refine wpS2 3 hG3 ?_; intro hG4; clear hG3
    refine wpS2 4 hG4 ?_; intro hG5; clear hG4
    refine wpS1 5 hG5 ?_; intro hG6; clear hG5
    refine wpS1 6 hG6 ?_; intro hG7; clear hG6
    refine wpS1 7 hG7 ?_; intro hG8; clear hG7
    refine wpS2 8 hG8 ?_; intro hG9; clear hG8
    refine wpAnyG_ready (rs := [9, 13]) (by kernel_rfl) (by simp) (AllG.cons rfl hG9 (fun K hK => ?_) (AllG.cons rfl hG9 (fun K hK => ?_) AllG.nil))
    (go_simp; go_at_call 116; refine (K5.out _).mono ?_; rintro e w4 ⟨rfl, hb4⟩)
    refine hK.out _ _ (Or.inl rfl) (fun hG10 => wpN ?_); clear hK hG9
    refine wpS1 10 hG10 ?_; intro hG11; clear hG10
    refine wpS1 11 hG11 ?_; intro hG12; clear hG11
    refine wpS1 12 hG12 ?_; intro hG13; clear hG12
    refine wpAnyG_ready (rs := [13]) (by kernel_rfl) (by simp) (AllG.cons rfl hG13 (fun K hK => ?_) AllG.nil)
    (go_simp)
    refine hK.out _ _ (Or.inl rfl) (fun hG14 => wpN ?_); clear hK hG13
    refine wpAnyG_ready (rs := [14]) (by kernel_rfl) (by simp) (AllG.cons rfl hG14 (fun K hK => ?_) AllG.nil)
    (go_simp)
    refine hK.out _ _ (Or.inl rfl) (fun hG15 => wpN ?_); clear hK hG14
    refine wpS1 15 hG15 ?_; intro hG16; clear hG15
    refine wpAnyG_done (by kernel_rfl) ?_ _; clear hG16
    rotate_left
    (go_simp)
    refine hK.out _ _ (Or.inr (cif (by exact bel))) (fun hG10 => wpN ?_); clear hK hG9
    refine wpAnyG_ready (rs := [9]) (by kernel_rfl) (by simp) (AllG.cons rfl hG10 (fun K hK => ?_) AllG.nil)
    (go_simp; go_at_call 116; refine (K5.out _).mono ?_; rintro e w4 ⟨rfl, hb4⟩; have q0 : w4.cell? ⟨wr.heap.size, 0, none⟩ = some (.int .i64 0) := (hb4.cell (p := ⟨wr.heap.size, 0, none⟩) (by simp)).trans (by simp); have q1 : w4.cell? ⟨wr.heap.size, 1, none⟩ = some (.int .i64 0) := (hb4.cell (p := ⟨wr.heap.size, 1, none⟩) (by simp)).trans (by simp); have q2 : w4.frozen? ⟨wr.heap.size, 0, none⟩ = false := (hb4.frozen (p := ⟨wr.heap.size, 0, none⟩) (by simp)).trans (by simp); have q3 : w4.frozen? ⟨wr.heap.size, 1, none⟩ = false := (hb4.frozen (p := ⟨wr.heap.size, 1, none⟩) (by simp)).trans (by simp); have q4 : wr.heap.size < w4.heap.size := (by have := hb4.size; simp at this; omega))
    refine hK.out _ _ (Or.inl rfl) (fun hG11 => wpN ?_); clear hK hG10
    refine wpS1 10 hG11 ?_; intro hG12; clear hG11
    refine wpS1 11 hG12 ?_; intro hG13; clear hG12
    refine wpS1 12 hG13 ?_; intro hG14; clear hG13
    refine wpAnyG_ready (rs := [14]) (by kernel_rfl) (by simp) (AllG.cons rfl hG14 (fun K hK => ?_) AllG.nil)
    (go_simp)
    refine hK.out _ _ (Or.inl rfl) (fun hG15 => wpN ?_); clear hK hG14
    refine wpS1 15 hG15 ?_; intro hG16; clear hG15
    refine wpAnyG_done (by kernel_rfl) ?_ _; clear hG16
    rotate_left
    ·have hb5 : Below wr.heap.size wr (w4.alloc (.cells #[.int .i64 x.num, .int .i64 x.den] 45)) := ((Below.refl _ _).drew.trans hb4).alloc (by have := hb4.size; exact this) _
     have s0 : (w4.alloc (.cells #[.int .i64 x.num, .int .i64 x.den] 45)).cell? ⟨w4.heap.size, 0, none⟩ = some (.int .i64 x.num) := by simp
     have s1 : (w4.alloc (.cells #[.int .i64 x.num, .int .i64 x.den] 45)).cell? ⟨w4.heap.size, 1, none⟩ = some (.int .i64 x.den) := by simp
     have sY : w4.heap.size < (w4.alloc (.cells #[.int .i64 x.num, .int .i64 x.den] 45)).heap.size := by simp
     have sZ : wr.heap.size ≤ w4.heap.size := hb4.size
     clear hb4
     obtain ⟨w5, hw5⟩ : ∃ w5, w5 = w4.alloc (.cells #[.int .i64 x.num, .int .i64 x.den] 45) := ⟨_, rfl⟩
     obtain ⟨Y, hY⟩ : ∃ Y, Y = w4.heap.size := ⟨_, rfl⟩
     rw [← hw5, ← hY] at s0 s1 sY; rw [← hw5] at hb5; rw [← hY] at sZ; rw [← hw5, ← hY]; clear hw5 hY
     have hr5 := hrow.out.up hb5
     have v0 := hr5.num hlt
     have v1 := hr5.den hlt
     simp only [if_neg (show ¬ k < k by omega)] at v0 v1
     have v2 := hr5.frozen (k * 2)
     have v3 := hr5.frozen (k * 2 + 1)
     have hk5 := hkw.up hb5
     have g5 : b1 < w5.heap.size := by have := hb5.size; omega
     have hr6 := (hr5.set k x).congr (g := fun j => if j < k + 1 then g j - f * h j else g j) fun j _ => by (unfold updF; by_cases e : j = k; (rw [if_pos e, if_pos (by omega), e, Hx.out]); (rw [if_neg e]; dsimp only; by_cases e2 : j < k; (rw [if_pos e2, if_pos (by omega)]); (rw [if_neg e2, if_neg (by omega)])))
     have Hr6 := Lib.hid hr6
     have Hk5 := Lib.hid hk5
     clear hr5 hr6 hk5
     go_wp2
     go_roundw
     case rel => exact ⟨k + 1, by omega, by go_num, Hr6.out, Lib.hid (fun j hj => by rcases Nat.lt_succ_iff_lt_or_eq.1 hj with e | rfl; exact hok.out j e; exact ⟨Hp.out.1, Hp.out.2⟩), (Hk5.out.set (p := ⟨b1, k * 2, none⟩) (Nat.le_refl _) (Nat.lt_succ_self _) _).set (p := ⟨b1, k * 2 + 1, none⟩) (Nat.le_refl _) (Nat.lt_succ_self _) _⟩
     case measure => simp [intOf]; omega
    ·have hb5 : Below wr.heap.size wr ((w4.setCell ⟨wr.heap.size, 0, none⟩ (.int .i64 x.num)).setCell ⟨wr.heap.size, 1, none⟩ (.int .i64 x.den)) := ((((Below.refl _ _).drew.alloc (Nat.le_refl _) _).trans (hb4.mono (by simp))).setCell (p := ⟨wr.heap.size, 0, none⟩) (Nat.le_refl _) _).setCell (p := ⟨wr.heap.size, 1, none⟩) (Nat.le_refl _) _
     have s0 : ((w4.setCell ⟨wr.heap.size, 0, none⟩ (.int .i64 x.num)).setCell ⟨wr.heap.size, 1, none⟩ (.int .i64 x.den)).cell? ⟨wr.heap.size, 0, none⟩ = some (.int .i64 x.num) := by rw [World.cell?_setCell_other _ _ _ _ (by simp)]; exact World.cell?_setCell_same _ _ _ q0
     have s1 : ((w4.setCell ⟨wr.heap.size, 0, none⟩ (.int .i64 x.num)).setCell ⟨wr.heap.size, 1, none⟩ (.int .i64 x.den)).cell? ⟨wr.heap.size, 1, none⟩ = some (.int .i64 x.den) := World.cell?_setCell_same _ _ _ ((World.cell?_setCell_other _ _ _ _ (by simp)).trans q1)
     have sY : wr.heap.size < ((w4.setCell ⟨wr.heap.size, 0, none⟩ (.int .i64 x.num)).setCell ⟨wr.heap.size, 1, none⟩ (.int .i64 x.den)).heap.size := by simpa [World.setCell] using q4
     have sZ : wr.heap.size ≤ wr.heap.size := Nat.le_refl _
     clear hb4 q0 q1 q2 q3 q4
     obtain ⟨w5, hw5⟩ : ∃ w5, w5 = ((w4.setCell ⟨wr.heap.size, 0, none⟩ (.int .i64 x.num)).setCell ⟨wr.heap.size, 1, none⟩ (.int .i64 x.den)) := ⟨_, rfl⟩
     rw [← hw5] at hb5 s0 s1 sY; rw [← hw5]; clear hw5
     have hr5 := hrow.out.up hb5
     have v0 := hr5.num hlt
     have v1 := hr5.den hlt
     simp only [if_neg (show ¬ k < k by omega)] at v0 v1
     have v2 := hr5.frozen (k * 2)
     have v3 := hr5.frozen (k * 2 + 1)
     have hk5 := hkw.up hb5
     have g5 : b1 < w5.heap.size := by have := hb5.size; omega
     have hr6 := (hr5.set k x).congr (g := fun j => if j < k + 1 then g j - f * h j else g j) fun j _ => by (unfold updF; by_cases e : j = k; (rw [if_pos e, if_pos (by omega), e, Hx.out]); (rw [if_neg e]; dsimp only; by_cases e2 : j < k; (rw [if_pos e2, if_pos (by omega)]); (rw [if_neg e2, if_neg (by omega)])))
     have Hr6 := Lib.hid hr6
     have Hk5 := Lib.hid hk5
     clear hr5 hr6 hk5
     go_wp2
     go_roundw
     case rel => exact ⟨k + 1, by omega, by go_num, Hr6.out, Lib.hid (fun j hj => by rcases Nat.lt_succ_iff_lt_or_eq.1 hj with e | rfl; exact hok.out j e; exact ⟨Hp.out.1, Hp.out.2⟩), (Hk5.out.set (p := ⟨b1, k * 2, none⟩) (Nat.le_refl _) (Nat.lt_succ_self _) _).set (p := ⟨b1, k * 2 + 1, none⟩) (Nat.le_refl _) (Nat.lt_succ_self _) _⟩
     case measure => simp [intOf]; omega
   ·have Hp := Lib.hid hp
    have kk := KK.out
    unfold RetFE at kk
    rw [lsF_no hp] at kk
    simp only [errV_5] at kk
    have K5 := Lib.hid kk
    clear kk hp KK
    go_wp2_with fail
    refine wp_region_G 9 (fun w' => ∀ b o, w'.cell? ⟨b, o, none⟩ = if b < wr.heap.size then wr.cell? ⟨b, o, none⟩ else hidC w' b o) (by kernel_rfl) (cif (B := wr.heap.size) (W := wr) (Below.refl _ _).drew) ?_
    intro hG0
    refine wpS1 0 hG0 ?_; intro hG1; clear hG0
    refine wpS1 1 hG1 ?_; intro hG2; clear hG1
    refine wpS1 2 hG2 ?_; intro hG3; clear hG2
    refine wpS2 3 hG3 ?_; intro hG4; clear hG3
    refine wpS2 4 hG4 ?_; intro hG5; clear hG4
    refine wpS1 5 hG5 ?_; intro hG6; clear hG5
    refine wpS1 6 hG6 ?_; intro hG7; clear hG6
    refine wpS1 7 hG7 ?_; intro hG8; clear hG7
    refine wpS2 8 hG8 ?_; intro hG9; clear hG8
    refine wpAnyG_ready (rs := [9, 13]) (by kernel_rfl) (by simp) (AllG.cons rfl hG9 (fun K hK => ?_) (AllG.cons rfl hG9 (fun K hK => ?_) AllG.nil))
    (go_simp; go_at_call 116; refine (K5.out _).mono ?_; rintro e w4 ⟨rfl, hb4⟩)
    refine hK.out _ _ (Or.inl rfl) (fun hG10 => wpN ?_); clear hK hG9
    refine wpS1 10 hG10 ?_; intro hG11; clear hG10
    refine wpS1 11 hG11 ?_; intro hG12; clear hG11
    refine wpS1 12 hG12 ?_; intro hG13; clear hG12
    refine wpAnyG_ready (rs := [13]) (by kernel_rfl) (by simp) (AllG.cons rfl hG13 (fun K hK => ?_) AllG.nil)
    (go_simp)
    refine hK.out _ _ (Or.inl rfl) (fun hG14 => wpN ?_); clear hK hG13
    refine wpAnyG_ready (rs := [14]) (by kernel_rfl) (by simp) (AllG.cons rfl hG14 (fun K hK => ?_) AllG.nil)
    (go_simp)
    refine hK.out _ _ (Or.inl rfl) (fun hG15 => wpN ?_); clear hK hG14
    refine wpS1 15 hG15 ?_; intro hG16; clear hG15
    refine wpAnyG_done (by kernel_rfl) ?_ _; clear hG16
    rotate_left
    (go_simp)
    refine hK.out _ _ (Or.inr (cif (by exact bel))) (fun hG10 => wpN ?_); clear hK hG9
    refine wpAnyG_ready (rs := [9]) (by kernel_rfl) (by simp) (AllG.cons rfl hG10 (fun K hK => ?_) AllG.nil)
    (go_simp; go_at_call 116; refine (K5.out _).mono ?_; rintro e w4 ⟨rfl, hb4⟩; have q0 : w4.cell? ⟨wr.heap.size, 0, none⟩ = some (.int .i64 0) := (hb4.cell (p := ⟨wr.heap.size, 0, none⟩) (by simp)).trans (by simp); have q1 : w4.cell? ⟨wr.heap.size, 1, none⟩ = some (.int .i64 0) := (hb4.cell (p := ⟨wr.heap.size, 1, none⟩) (by simp)).trans (by simp); have q2 : w4.frozen? ⟨wr.heap.size, 0, none⟩ = false := (hb4.frozen (p := ⟨wr.heap.size, 0, none⟩) (by simp)).trans (by simp); have q3 : w4.frozen? ⟨wr.heap.size, 1, none⟩ = false := (hb4.frozen (p := ⟨wr.heap.size, 1, none⟩) (by simp)).trans (by simp); have q4 : wr.heap.size < w4.heap.size := (by have := hb4.size; simp at this; omega))
    refine hK.out _ _ (Or.inl rfl) (fun hG11 => wpN ?_); clear hK hG10
    refine wpS1 10 hG11 ?_; intro hG12; clear hG11
    refine wpS1 11 hG12 ?_; intro hG13; clear hG12
    refine wpS1 12 hG13 ?_; intro hG14; clear hG13
    refine wpAnyG_ready (rs := [14]) (by kernel_rfl) (by simp) (AllG.cons rfl hG14 (fun K hK => ?_) AllG.nil)
    (go_simp)
    refine hK.out _ _ (Or.inl rfl) (fun hG15 => wpN ?_); clear hK hG14
    refine wpS1 15 hG15 ?_; intro hG16; clear hG15
    refine wpAnyG_done (by kernel_rfl) ?_ _; clear hG16
    rotate_left
    ·have hb5 : Below wr.heap.size wr (w4.alloc (.cells #[.int .i64 0, .int .i64 0] 45)) := ((Below.refl _ _).drew.trans hb4).alloc (by have := hb4.size; exact this) _
     have s0 : (w4.alloc (.cells #[.int .i64 0, .int .i64 0] 45)).cell? ⟨w4.heap.size, 0, none⟩ = some (.int .i64 0) := by simp
     have s1 : (w4.alloc (.cells #[.int .i64 0, .int .i64 0] 45)).cell? ⟨w4.heap.size, 1, none⟩ = some (.int .i64 0) := by simp
     have sY : w4.heap.size < (w4.alloc (.cells #[.int .i64 0, .int .i64 0] 45)).heap.size := by simp
     have sZ : wr.heap.size ≤ w4.heap.size := hb4.size
     clear hb4
     obtain ⟨w5, hw5⟩ : ∃ w5, w5 = w4.alloc (.cells #[.int .i64 0, .int .i64 0] 45) := ⟨_, rfl⟩
     obtain ⟨Y, hY⟩ : ∃ Y, Y = w4.heap.size := ⟨_, rfl⟩
     rw [← hw5, ← hY] at s0 s1 sY; rw [← hw5] at hb5; rw [← hY] at sZ; rw [← hw5, ← hY]; clear hw5 hY
     have Hk5 := Lib.hid (hkw0.up hb5)
     go_wp2
     go_ret
     exact ⟨.inr ⟨rfl, fun hE => Hp.out (hE k hlt)⟩, Hk5.out⟩
    ·have hb5 : Below wr.heap.size wr ((w4.setCell ⟨wr.heap.size, 0, none⟩ (.int .i64 0)).setCell ⟨wr.heap.size, 1, none⟩ (.int .i64 0)) := ((((Below.refl _ _).drew.alloc (Nat.le_refl _) _).trans (hb4.mono (by simp))).setCell (p := ⟨wr.heap.size, 0, none⟩) (Nat.le_refl _) _).setCell (p := ⟨wr.heap.size, 1, none⟩) (Nat.le_refl _) _
     have s0 : ((w4.setCell ⟨wr.heap.size, 0, none⟩ (.int .i64 0)).setCell ⟨wr.heap.size, 1, none⟩ (.int .i64 0)).cell? ⟨wr.heap.size, 0, none⟩ = some (.int .i64 0) := by rw [World.cell?_setCell_other _ _ _ _ (by simp)]; exact World.cell?_setCell_same _ _ _ q0
     have s1 : ((w4.setCell ⟨wr.heap.size, 0, none⟩ (.int .i64 0)).setCell ⟨wr.heap.size, 1, none⟩ (.int .i64 0)).cell? ⟨wr.heap.size, 1, none⟩ = some (.int .i64 0) := World.cell?_setCell_same _ _ _ ((World.cell?_setCell_other _ _ _ _ (by simp)).trans q1)
     have sY : wr.heap.size < ((w4.setCell ⟨wr.heap.size, 0, none⟩ (.int .i64 0)).setCell ⟨wr.heap.size, 1, none⟩ (.int .i64 0)).heap.size := by simpa [World.setCell] using q4
     have sZ : wr.heap.size ≤ wr.heap.size := Nat.le_refl _
     clear hb4 q0 q1 q2 q3 q4
     obtain ⟨w5, hw5⟩ : ∃ w5, w5 = ((w4.setCell ⟨wr.heap.size, 0, none⟩ (.int .i64 0)).setCell ⟨wr.heap.size, 1, none⟩ (.int .i64 0)) := ⟨_, rfl⟩
     rw [← hw5] at hb5 s0 s1 sY; rw [← hw5]; clear hw5
     have Hk5 := Lib.hid (hkw0.up hb5)
     go_wp2
     go_ret
     exact ⟨.inr ⟨rfl, fun hE => Hp.out (hE k hlt)⟩, Hk5.out⟩
  ·obtain rfl : k = N := by omega
   have Hr := Lib.hid (hrow.out.congr (g := fun j => g j - f * h j) fun j hj => by rw [if_pos hj])
   clear hrow
   go_wp2
   go_ret
   exact ⟨.inl ⟨rfl, hok.out, Hr.out⟩, hkw0⟩

end Go.Proofs.YtaampjhdgeoicaaGreat
