/- The reference's Optimal; the law PartitionOptimal. -/
import Derived.Test.YtaampjhdgeoicaaGreatMfA
import Derived.Test.YtaampjhdgeoicaaGreatPoR
import Derived.Test.YtaampjhdgeoicaaGreatRfI
namespace Go.Proofs.YtaampjhdgeoicaaGreat
set_option linter.unusedSimpArgs false
set_option linter.unusedVariables false
open Go Go.RowKit
set_option linter.unusedVariables false

theorem own_nil0 {w : World} {B s n k c : Nat} {e : TypeId} {A : Option Addr} {xs : List Value} (h : w.ownsRow B e s (.slice A n c) k xs) : A = none → c = 0 := fun e => by
 subst e
 rcases h.2 with ⟨e, _⟩ | ⟨g, cap, cur, e, _⟩
 ·injection e
 ·cases e
def RPoRet (costs : List Int) (l : List Cut) (e : Ending) (w' : World) : Prop :=
 (chk38 costs l ≠ 0 ∧ e = .returned (.tuple #[.slice none 0 0, .int .i64 (chk38 costs l)])) ∨ (chk38 costs l = 0 ∧ ((∃ cd, cd ≠ 0 ∧ Fin (keptL costs l).length (l.length + (keptL costs l).length) (T37 (onL l.length) (opR l (keptL costs l)) (opB costs (keptL costs l))) (.err cd) ∧ e = .returned (.tuple #[.slice none 0 0, .int .i64 cd])) ∨
  ∃ T A c, Fin (keptL costs l).length (l.length + (keptL costs l).length) (T37 (onL l.length) (opR l (keptL costs l)) (opB costs (keptL costs l))) (.ok T) ∧ e = .returned (.tuple #[.slice A l.length c, .int .i64 0]) ∧ FactsAt w' w'.heap.size A (frq (xB (keptL costs l).length T) l.length)))

set_option maxRecDepth 100000 in
set_option maxHeartbeats 8000000 in
theorem roptimal_any (costs : List Int) (l : List Cut) (A1 A2 : Option Addr) (c1 c2 : Nat) (w : World) (h1 : IntsAt w w.heap.size A1 costs) (h2 : CutsAt w w.heap.size A2 l) (hn : costs.length ≤ 24) :
  Calls Tryz.prog 23 #[.slice A1 costs.length c1, .slice A2 l.length c2] w fun e w' => RPoRet costs l e w' ∧ Below w.heap.size w w' := by
 have k1 := fun w1 (hb : Below w.heap.size w w1) => rcheck38_any costs l A1 A2 c1 c2 w1 (h1.up hb) (h2.up hb)
 have l1 := h1.len
 have l2 := h2.len
 by_cases e0 : chk38 costs l = 0
 case neg =>
  have e1 : (chk38 costs l != 0) = true := by simpa using e0
  have K1 := Lib.hid k1
  have HE0 := Lib.hid e0
  clear k1 h1 h2
  go_enter Tryz.func23, Tryz.ntmps23
  go_wp2_with fail
  refine (K1.out _ (Below.refl _ _)).mono ?_
  rintro e w3 ⟨rfl, hb3⟩
  go_wp2
  refine bodyPost_ret (v := .tuple #[.slice none 0 0, .int .i64 (chk38 costs l)]) (by simp [results, Tryz.results23, go_sem]) rfl ⟨.inl ⟨HE0.out, rfl⟩, hb3⟩
 have G := Lib.hid (good38 e0)
 have hm24 := G.out.many
 have E0 := Lib.hid e0
 simp only [e0] at k1
 have K1 := Lib.hid k1
 have KC := Lib.hid (fun (o : Nat) wx (h : Below w.heap.size w wx) => column_any l o A2 c2 wx (h2.up h) (by omega))
 have KW := Lib.hid number_any
 have H1 := Lib.hid h1
 obtain ⟨inf, hi, iz0, iz1, iz2⟩ := info_parts infoC
 obtain ⟨inr, hir, jz0, jz1, jz2⟩ := info_parts infoR7
 clear e0 k1 h1 h2
 go_enter Tryz.func23, Tryz.ntmps23
 go_wp2_with fail
 refine (K1.out _ (Below.refl _ _)).mono ?_
 rintro e w3 ⟨rfl, hb3⟩
 have z3 := hb3.size
 go_wp2
 go_loopw [7, 29] (fun v i wr => ∃ (k : Nat) (A' : Option Addr) (c' : Nat), k ≤ l.length ∧ i = .int .i64 k ∧ v = .slice A' k c' ∧ Hid (wr.ownsRow w.heap.size 45 2 (.slice A' k c') (onL k).length (fc (onL k))) ∧ Below w.heap.size w wr) (fun _ i _ => l.length - (intOf i).toNat)
 case atStart => exact ⟨0, none, 0, by omega, rfl, rfl, Lib.hid (World.ownsRow_nil _ _ _ _), hb3⟩
 case round =>
  obtain ⟨k, A', c', hk, rfl, rfl, hown, hbel⟩ := hrel
  have hbz := hbel.size
  have Hl1 := Lib.hid (onL_len k)
  have Hl2 := Lib.hid (onL_len (k + 1))
  have HSc := Lib.hid (onL_succ k)
  by_cases hltk : k < l.length
  ·go_wp2_with fail
   refine (KW.out _ _).mono ?_
   rintro e w6 ⟨rfl, hb6⟩
   have hbw := hbel.trans (hb6.mono hbz)
   have zw := hbw.size
   have Ho6 := Lib.hid (own_below hown.out hb6)
   clear hb6
   go_wp2_with (at_builtin; refine wpList_push rfl _ _ 37 rfl w.heap.size 45 inf (.agg #[.int .i64 0, .int .i64 0]) 2 16 undC hi iz0 iz1 iz2 rfl (by decide) (by decide) _ (onL k).length (fc (onL k)) rfl (Ho6.out.alloc _) w6.heap.size 45 [.int .i64 1, .int .i64 1] rfl rfl (heap_alloc_new _ _) (two_one rfl rfl) (by have := Hl1.out; omega) (by first | omega | (simp; omega)) (B := w.heap.size) (W := w) (hbw.alloc zw _) (Nat.le_refl _) ?_; intro v8 w8 ho8 hg8 hat8 hb8; have ho9 : w8.ownsRow w.heap.size 45 2 v8 (onL (k + 1)).length (fc (onL (k + 1))) := (by rw [HSc.out, List.length_append, fc_app]; exact ho8); obtain ⟨A8, c8, rfl⟩ := own_shapeL ho9 Hl2.out; have Ho9 := Lib.hid ho9; clear ho8 ho9 hg8 hat8)
   go_roundw
   case rel => exact ⟨k + 1, A8, c8, by omega, by go_num, rfl, Ho9, hb8⟩
   case measure => simp [intOf]; omega
  ·obtain rfl : l.length = k := by omega
   obtain ⟨w5, hw5⟩ : ∃ w5 : World, w5 = wr := ⟨_, rfl⟩
   rw [← hw5] at hown hbel hbz ⊢
   clear hw5
   obtain ⟨Ao, co, e7, hzo, hFo⟩ := own_fracs hown.out (by have := Hl1.out; omega)
   injection e7 with e71 e72 e73
   subst e71 e73
   have HFo := Lib.hid hFo
   have HZo := Lib.hid hzo
   clear hown e72 hFo hzo Hl1 Hl2 HSc hb3 z3
   go_wp2
   go_loopw [8, 9, 38] (fun v8 v9 i wr => ∃ (k : Nat) (A8 A9 : Option Addr) (c8 c9 : Nat) (xs : List Value), k ≤ costs.length ∧ i = .int .i64 k ∧ v8 = .slice A8 (rfK costs l k).length c8 ∧ v9 = .slice A9 (rfK costs l k).length c9 ∧ Hid (OpW wr w5.heap.size (opR l (rfK costs l k)) (opB costs (rfK costs l k)) (.slice A8 (rfK costs l k).length c8) (.slice A9 (rfK costs l k).length c9) xs) ∧ Below w5.heap.size w5 wr) (fun _ _ i _ => costs.length - (intOf i).toNat)
   case atStart => exact ⟨0, none, none, 0, 0, [], by omega, rfl, rfl, rfl, Lib.hid OpW.nil, Below.refl _ _⟩
   case round =>
    obtain ⟨k, A8, A9, c8, c9, xs, hk, rfl, rfl, rfl, hop, hbk⟩ := hrel
    obtain ⟨wv, hwv⟩ : ∃ wv : World, wv = wr := ⟨_, rfl⟩
    rw [← hwv] at hop hbk ⊢
    clear hwv
    have zv := hbk.size
    obtain ⟨kl, hkl⟩ : ∃ kl, kl = rfK costs l k := ⟨_, rfl⟩
    rw [← hkl] at hop ⊢
    have HKL := Lib.hid hkl
    have hkll : kl.length ≤ 24 := by rw [hkl]; have := rfK_le costs l k; omega
    clear hkl
    have hbv := hbel.trans (hbk.mono hbz)
    have zvw := hbv.size
    by_cases hltk : k < costs.length
    ·obtain ⟨gk, hgk⟩ : ∃ gk, gk = anyIn l k := ⟨_, rfl⟩
     have KCk := Lib.hid (KC.out k _ hbv)
     rw [← hgk] at KCk
     have HGK := Lib.hid hgk
     clear hgk
     obtain ⟨b1, o1, ea1, hb1, hc1⟩ := H1.out.at_ hltk
     subst ea1
     have HB1 := Lib.hid hb1
     have HC1 := Lib.hid hc1
     have k0 : (0 : Int) ≤ (k : Int) := by omega
     have k1 : (k : Int) < (costs.length : Int) := by omega
     clear hc1 hb1
     go_wp2_with fail
     refine KCk.out.mono ?_
     rintro e w6 ⟨⟨A11, c11, rfl, hr11⟩, hb6⟩
     have HR11 := Lib.hid hr11
     have zv6 := hb6.size
     have HOP6 := Lib.hid (hop.out.up hb6)
     have HSB := Lib.hid (show ∀ (p : Addr), A11 = some p → Value.ownBlock (.slice A8 kl.length c8) ≠ some p.block from fun p hp e => by
      have h5 := (HR11.out.2.2 p hp).2
      have h7 := (hop.out.b.lt _ e).2
      omega)
     have hbk6 := hbk.trans (hb6.mono zv)
     have hb56 := hbel.trans (hbk6.mono hbz)
     have z6 := hb56.size
     have z56 := hbk6.size
     clear hr11 hb6 hop KCk hbk hbv zv zvw
     go_wp2
     go_loopw [13, 50] (fun v i wr => ∃ t : Nat, t ≤ costs.length ∧ i = .int .i64 t ∧ v = .bool (gk && !anyB t (wrB costs l k)) ∧ Below w6.heap.size w6 wr) (fun _ i _ => costs.length - (intOf i).toNat)
     case atStart => exact ⟨0, by omega, rfl, by rw [show anyB 0 (wrB costs l k) = false from rfl]; simp, Below.refl _ _⟩
     case round =>
      obtain ⟨t, ht, rfl, rfl, hbt⟩ := hrel
      obtain ⟨w7, hw7⟩ : ∃ w7 : World, w7 = wr := ⟨_, rfl⟩
      rw [← hw7] at hbt ⊢
      clear hw7
      have z7 := hbt.size
      have hb57 := hb56.trans (hbt.mono z6)
      have z57 := hb57.size
      by_cases hltt : t < costs.length
      ·obtain ⟨ot, hot⟩ : ∃ ot, ot = (gk && !anyB t (wrB costs l k)) := ⟨_, rfl⟩
       have HN := Lib.hid (show (gk && !anyB (t + 1) (wrB costs l k)) = (ot && !wrB costs l k t) by rw [anyB_succ, hot]; cases gk <;> cases anyB t (wrB costs l k) <;> cases wrB costs l k t <;> rfl)
       rw [← hot]
       clear hot
       have KCt := Lib.hid (KC.out t _ hb57)
       obtain ⟨gt, hgt⟩ : ∃ gt, gt = anyIn l t := ⟨_, rfl⟩
       rw [← hgt] at KCt
       clear hgt
       go_wp2_with fail
       refine KCt.out.mono ?_
       rintro e w8 ⟨⟨A15, c15, rfl, hr15⟩, hb8⟩
       have HR15 := Lib.hid hr15
       have hb68 := hbt.trans (hb8.mono z7)
       have hb58 := hb57.trans (hb8.mono z57)
       have z8 := hb58.size
       have d1 := (hb58.cell (p := ⟨b1, o1 + t, none⟩) HB1.out).trans (HC1.out t hltt)
       have d2 := (hb58.cell (p := ⟨b1, o1 + k, none⟩) HB1.out).trans (HC1.out k hltk)
       have g8 : b1 < w8.heap.size := by have := HB1.out; omega
       have t0 : (0 : Int) ≤ (t : Int) := by omega
       have t1 : (t : Int) < (costs.length : Int) := by omega
       have HR11b := Lib.hid (HR11.out.up hb68)
       have KS := Lib.hid (fun wx (h : Below w8.heap.size w8 wx) => (by have := rsame38_any (lnL l t l.length) (lnL l k l.length) A15 A11 c15 c11 wx (factsAt_up HR15.out.2.1 h) (factsAt_up HR11b.out.2.1 h) (by rw [lnL_len, lnL_len]); simp only [lnL_len, smB_iff] at this; exact this : Calls Tryz.prog 50 #[.slice A15 l.length c15, .slice A11 l.length c11] wx fun e w' => e = .returned (.bool (decide (lnL l t l.length = lnL l k l.length))) ∧ Below wx.heap.size wx w'))
       have HW := Lib.hid (show wrB costs l k t = (decide (lnL l t l.length = lnL l k l.length) && (decide (nth costs t < nth costs k) || (decide (nth costs t = nth costs k) && decide (t < k)))) from rfl)
       obtain ⟨sb, hsb⟩ : ∃ sb, sb = decide (lnL l t l.length = lnL l k l.length) := ⟨_, rfl⟩
       rw [← hsb] at KS HW
       obtain ⟨ct, hct⟩ : ∃ ct, ct = nth costs t := ⟨_, rfl⟩
       rw [← hct] at d1 HW
       obtain ⟨ck, hck⟩ : ∃ ck, ck = nth costs k := ⟨_, rfl⟩
       rw [← hck] at d2 HW
       clear hr15 hb8 hbt hsb hct hck
       cases sb
       ·skip
        have HV := Lib.hid (show (gk && !anyB (t + 1) (wrB costs l k)) = ot by rw [HN.out, HW.out]; simp [*])
        go_wp2_with fail
        refine wp_region_G 2 (fun w' => ∀ b o, w'.cell? ⟨b, o, none⟩ = if b < w8.heap.size then w8.cell? ⟨b, o, none⟩ else hidC w' b o) (by kernel_rfl) (cif (B := w8.heap.size) (W := w8) (Below.refl _ _).drew) ?_
        intro hG0
        refine wpS1 0 hG0 ?_; intro hG1; clear hG0
        refine wpS1 1 hG1 ?_; intro hG2; clear hG1
        refine wpAnyG_ready (rs := [2]) (by kernel_rfl) (by simp) (AllG.cons rfl hG2 (fun K hK => ?_) AllG.nil)
        (go_simp; go_at_call 50; refine (KS.out _ (Below.refl _ _).drew).mono ?_; rintro e w9 ⟨rfl, hb9⟩; have hb89 : Below w8.heap.size w8 w9 := (Below.refl _ _).drew.trans hb9; have hb69 := hb68.trans (hb89.mono (by have := hb68.size; omega)); clear hb9)
        refine hK.out _ _ (Or.inl rfl) (fun hG3 => wpN ?_); clear hK hG2
        refine wpS3 3 (.bool false) hG3 ?_; intro hG4; clear hG3
        refine wpS0 4 hG4 ?_; intro hG5; clear hG4
        refine wpS0 5 hG5 ?_; intro hG6; clear hG5
        refine wpS0 6 hG6 ?_; intro hG7; clear hG6
        refine wpS0 7 hG7 ?_; intro hG8; clear hG7
        refine wpS0 8 hG8 ?_; intro hG9; clear hG8
        refine wpS0 9 hG9 ?_; intro hG10; clear hG9
        refine wpS0 10 hG10 ?_; intro hG11; clear hG10
        refine wpS0 11 hG11 ?_; intro hG12; clear hG11
        refine wpS0 12 hG12 ?_; intro hG13; clear hG12
        refine wpS0 13 hG13 ?_; intro hG14; clear hG13
        refine wpS0 14 hG14 ?_; intro hG15; clear hG14
        refine wpS0 15 hG15 ?_; intro hG16; clear hG15
        refine wpS0 16 hG16 ?_; intro hG17; clear hG16
        refine wpS0 17 hG17 ?_; intro hG18; clear hG17
        refine wpS0 18 hG18 ?_; intro hG19; clear hG18
        refine wpS0 19 hG19 ?_; intro hG20; clear hG19
        refine wpS0 20 hG20 ?_; intro hG21; clear hG20
        refine wpS0 21 hG21 ?_; intro hG22; clear hG21
        refine wpS0 22 hG22 ?_; intro hG23; clear hG22
        refine wpS0 23 hG23 ?_; intro hG24; clear hG23
        refine wpS0 24 hG24 ?_; intro hG25; clear hG24
        refine wpS0 25 hG25 ?_; intro hG26; clear hG25
        refine wpS0 26 hG26 ?_; intro hG27; clear hG26
        refine wpS0 27 hG27 ?_; intro hG28; clear hG27
        refine wpS0 28 hG28 ?_; intro hG29; clear hG28
        refine wpS1 29 hG29 ?_; intro hG30; clear hG29
        refine wpAnyG_done (by kernel_rfl) ?_ _; clear hG30
        go_wp2
        go_roundw
        case rel => exact ⟨t + 1, by omega, by go_num, by rw [HV.out], hb69⟩
        case measure => simp [intOf]; omega
       ·by_cases hl : ct < ck
        ·have hl2 : decide (ct < ck) = true := decide_eq_true hl
         have HV := Lib.hid (show (gk && !anyB (t + 1) (wrB costs l k)) = false by rw [HN.out, HW.out]; simp [*])
         go_wp2_with fail
         refine wp_region_G 29 (fun w' => ∀ b o, w'.cell? ⟨b, o, none⟩ = if b < w8.heap.size then w8.cell? ⟨b, o, none⟩ else hidC w' b o) (by kernel_rfl) (cif (B := w8.heap.size) (W := w8) (Below.refl _ _).drew) ?_
         intro hG0
         refine wpS1 0 hG0 ?_; intro hG1; clear hG0
         refine wpS1 1 hG1 ?_; intro hG2; clear hG1
         refine wpAnyG_ready (rs := [2]) (by kernel_rfl) (by simp) (AllG.cons rfl hG2 (fun K hK => ?_) AllG.nil)
         (go_simp; go_at_call 50; refine (KS.out _ (Below.refl _ _).drew).mono ?_; rintro e w9 ⟨rfl, hb9⟩; have hb89 : Below w8.heap.size w8 w9 := (Below.refl _ _).drew.trans hb9; have hb69 := hb68.trans (hb89.mono (by have := hb68.size; omega)); clear hb9)
         refine hK.out _ _ (Or.inr (cif hb89)) (fun hG3 => wpN ?_); clear hK hG2
         refine wpS3 3 (.bool true) hG3 ?_; intro hG4; clear hG3
         refine wpS1 4 hG4 ?_; intro hG5; clear hG4
         refine wpS1 5 hG5 ?_; intro hG6; clear hG5
         refine wpS1 6 hG6 ?_; intro hG7; clear hG6
         refine wpS2 7 hG7 ?_; intro hG8; clear hG7
         refine wpS1 8 hG8 ?_; intro hG9; clear hG8
         refine wpS1 9 hG9 ?_; intro hG10; clear hG9
         refine wpS1 10 hG10 ?_; intro hG11; clear hG10
         refine wpS2 11 hG11 ?_; intro hG12; clear hG11
         refine wpS1 12 hG12 ?_; intro hG13; clear hG12
         refine wpS3 13 (.bool true) hG13 ?_; intro hG14; clear hG13
         refine wpS0 14 hG14 ?_; intro hG15; clear hG14
         refine wpS0 15 hG15 ?_; intro hG16; clear hG15
         refine wpS0 16 hG16 ?_; intro hG17; clear hG16
         refine wpS0 17 hG17 ?_; intro hG18; clear hG17
         refine wpS0 18 hG18 ?_; intro hG19; clear hG18
         refine wpS0 19 hG19 ?_; intro hG20; clear hG19
         refine wpS0 20 hG20 ?_; intro hG21; clear hG20
         refine wpS0 21 hG21 ?_; intro hG22; clear hG21
         refine wpS0 22 hG22 ?_; intro hG23; clear hG22
         refine wpS0 23 hG23 ?_; intro hG24; clear hG23
         refine wpS0 24 hG24 ?_; intro hG25; clear hG24
         refine wpS0 25 hG25 ?_; intro hG26; clear hG25
         refine wpS0 26 hG26 ?_; intro hG27; clear hG26
         refine wpS0 27 hG27 ?_; intro hG28; clear hG27
         refine wpS1 28 hG28 ?_; intro hG29; clear hG28
         refine wpAnyG_ready (rs := [29]) (by kernel_rfl) (by simp) (AllG.cons rfl hG29 (fun K hK => ?_) AllG.nil)
         (go_simp)
         refine hK.out _ _ (Or.inl rfl) (fun hG30 => wpN ?_); clear hK hG29
         refine wpAnyG_done (by kernel_rfl) ?_ _; clear hG30
         go_wp2
         go_roundw
         case rel => exact ⟨t + 1, by omega, by go_num, by rw [HV.out], hb69⟩
         case measure => simp [intOf]; omega
        ·have hl2 : decide (ct < ck) = false := decide_eq_false hl
         by_cases he : ct = ck
         ·subst he
          by_cases hj : (t : Int) < (k : Int)
          ·have hj2 : t < k := by omega
           have HV := Lib.hid (show (gk && !anyB (t + 1) (wrB costs l k)) = false by rw [HN.out, HW.out]; simp [*])
           go_wp2_with fail
           refine wp_region_G 29 (fun w' => ∀ b o, w'.cell? ⟨b, o, none⟩ = if b < w8.heap.size then w8.cell? ⟨b, o, none⟩ else hidC w' b o) (by kernel_rfl) (cif (B := w8.heap.size) (W := w8) (Below.refl _ _).drew) ?_
           intro hG0
           refine wpS1 0 hG0 ?_; intro hG1; clear hG0
           refine wpS1 1 hG1 ?_; intro hG2; clear hG1
           refine wpAnyG_ready (rs := [2]) (by kernel_rfl) (by simp) (AllG.cons rfl hG2 (fun K hK => ?_) AllG.nil)
           (go_simp; go_at_call 50; refine (KS.out _ (Below.refl _ _).drew).mono ?_; rintro e w9 ⟨rfl, hb9⟩; have hb89 : Below w8.heap.size w8 w9 := (Below.refl _ _).drew.trans hb9; have hb69 := hb68.trans (hb89.mono (by have := hb68.size; omega)); clear hb9)
           refine hK.out _ _ (Or.inr (cif hb89)) (fun hG3 => wpN ?_); clear hK hG2
           refine wpS3 3 (.bool true) hG3 ?_; intro hG4; clear hG3
           refine wpS1 4 hG4 ?_; intro hG5; clear hG4
           refine wpS1 5 hG5 ?_; intro hG6; clear hG5
           refine wpS1 6 hG6 ?_; intro hG7; clear hG6
           refine wpS2 7 hG7 ?_; intro hG8; clear hG7
           refine wpS1 8 hG8 ?_; intro hG9; clear hG8
           refine wpS1 9 hG9 ?_; intro hG10; clear hG9
           refine wpS1 10 hG10 ?_; intro hG11; clear hG10
           refine wpS2 11 hG11 ?_; intro hG12; clear hG11
           refine wpS1 12 hG12 ?_; intro hG13; clear hG12
           refine wpS3 13 (.bool false) hG13 ?_; intro hG14; clear hG13
           refine wpS1 14 hG14 ?_; intro hG15; clear hG14
           refine wpS1 15 hG15 ?_; intro hG16; clear hG15
           refine wpS1 16 hG16 ?_; intro hG17; clear hG16
           refine wpS2 17 hG17 ?_; intro hG18; clear hG17
           refine wpS1 18 hG18 ?_; intro hG19; clear hG18
           refine wpS1 19 hG19 ?_; intro hG20; clear hG19
           refine wpS1 20 hG20 ?_; intro hG21; clear hG20
           refine wpS2 21 hG21 ?_; intro hG22; clear hG21
           refine wpS1 22 hG22 ?_; intro hG23; clear hG22
           refine wpS3 23 (.bool true) hG23 ?_; intro hG24; clear hG23
           refine wpS1 24 hG24 ?_; intro hG25; clear hG24
           refine wpS1 25 hG25 ?_; intro hG26; clear hG25
           refine wpS1 26 hG26 ?_; intro hG27; clear hG26
           refine wpS1 27 hG27 ?_; intro hG28; clear hG27
           refine wpS1 28 hG28 ?_; intro hG29; clear hG28
           refine wpAnyG_ready (rs := [29]) (by kernel_rfl) (by simp) (AllG.cons rfl hG29 (fun K hK => ?_) AllG.nil)
           (go_simp)
           refine hK.out _ _ (Or.inl rfl) (fun hG30 => wpN ?_); clear hK hG29
           refine wpAnyG_done (by kernel_rfl) ?_ _; clear hG30
           go_wp2
           go_roundw
           case rel => exact ⟨t + 1, by omega, by go_num, by rw [HV.out], hb69⟩
           case measure => simp [intOf]; omega
          ·have hj2 : ¬ t < k := by omega
           have HV := Lib.hid (show (gk && !anyB (t + 1) (wrB costs l k)) = ot by rw [HN.out, HW.out]; simp [*])
           go_wp2_with fail
           refine wp_region_G 29 (fun w' => ∀ b o, w'.cell? ⟨b, o, none⟩ = if b < w8.heap.size then w8.cell? ⟨b, o, none⟩ else hidC w' b o) (by kernel_rfl) (cif (B := w8.heap.size) (W := w8) (Below.refl _ _).drew) ?_
           intro hG0
           refine wpS1 0 hG0 ?_; intro hG1; clear hG0
           refine wpS1 1 hG1 ?_; intro hG2; clear hG1
           refine wpAnyG_ready (rs := [2]) (by kernel_rfl) (by simp) (AllG.cons rfl hG2 (fun K hK => ?_) AllG.nil)
           (go_simp; go_at_call 50; refine (KS.out _ (Below.refl _ _).drew).mono ?_; rintro e w9 ⟨rfl, hb9⟩; have hb89 : Below w8.heap.size w8 w9 := (Below.refl _ _).drew.trans hb9; have hb69 := hb68.trans (hb89.mono (by have := hb68.size; omega)); clear hb9)
           refine hK.out _ _ (Or.inr (cif hb89)) (fun hG3 => wpN ?_); clear hK hG2
           refine wpS3 3 (.bool true) hG3 ?_; intro hG4; clear hG3
           refine wpS1 4 hG4 ?_; intro hG5; clear hG4
           refine wpS1 5 hG5 ?_; intro hG6; clear hG5
           refine wpS1 6 hG6 ?_; intro hG7; clear hG6
           refine wpS2 7 hG7 ?_; intro hG8; clear hG7
           refine wpS1 8 hG8 ?_; intro hG9; clear hG8
           refine wpS1 9 hG9 ?_; intro hG10; clear hG9
           refine wpS1 10 hG10 ?_; intro hG11; clear hG10
           refine wpS2 11 hG11 ?_; intro hG12; clear hG11
           refine wpS1 12 hG12 ?_; intro hG13; clear hG12
           refine wpS3 13 (.bool false) hG13 ?_; intro hG14; clear hG13
           refine wpS1 14 hG14 ?_; intro hG15; clear hG14
           refine wpS1 15 hG15 ?_; intro hG16; clear hG15
           refine wpS1 16 hG16 ?_; intro hG17; clear hG16
           refine wpS2 17 hG17 ?_; intro hG18; clear hG17
           refine wpS1 18 hG18 ?_; intro hG19; clear hG18
           refine wpS1 19 hG19 ?_; intro hG20; clear hG19
           refine wpS1 20 hG20 ?_; intro hG21; clear hG20
           refine wpS2 21 hG21 ?_; intro hG22; clear hG21
           refine wpS1 22 hG22 ?_; intro hG23; clear hG22
           refine wpS3 23 (.bool true) hG23 ?_; intro hG24; clear hG23
           refine wpS1 24 hG24 ?_; intro hG25; clear hG24
           refine wpS1 25 hG25 ?_; intro hG26; clear hG25
           refine wpS1 26 hG26 ?_; intro hG27; clear hG26
           refine wpS1 27 hG27 ?_; intro hG28; clear hG27
           refine wpS1 28 hG28 ?_; intro hG29; clear hG28
           refine wpAnyG_ready (rs := [29]) (by kernel_rfl) (by simp) (AllG.cons rfl hG29 (fun K hK => ?_) AllG.nil)
           (go_simp)
           refine hK.out _ _ (Or.inl rfl) (fun hG30 => wpN ?_); clear hK hG29
           refine wpAnyG_done (by kernel_rfl) ?_ _; clear hG30
           go_wp2
           go_roundw
           case rel => exact ⟨t + 1, by omega, by go_num, by rw [HV.out], hb69⟩
           case measure => simp [intOf]; omega
         ·have he2 : (ct == ck) = false := by simpa using he
          have HV := Lib.hid (show (gk && !anyB (t + 1) (wrB costs l k)) = ot by rw [HN.out, HW.out]; simp [*])
          go_wp2_with fail
          refine wp_region_G 29 (fun w' => ∀ b o, w'.cell? ⟨b, o, none⟩ = if b < w8.heap.size then w8.cell? ⟨b, o, none⟩ else hidC w' b o) (by kernel_rfl) (cif (B := w8.heap.size) (W := w8) (Below.refl _ _).drew) ?_
          intro hG0
          refine wpS1 0 hG0 ?_; intro hG1; clear hG0
          refine wpS1 1 hG1 ?_; intro hG2; clear hG1
          refine wpAnyG_ready (rs := [2]) (by kernel_rfl) (by simp) (AllG.cons rfl hG2 (fun K hK => ?_) AllG.nil)
          (go_simp; go_at_call 50; refine (KS.out _ (Below.refl _ _).drew).mono ?_; rintro e w9 ⟨rfl, hb9⟩; have hb89 : Below w8.heap.size w8 w9 := (Below.refl _ _).drew.trans hb9; have hb69 := hb68.trans (hb89.mono (by have := hb68.size; omega)); clear hb9)
          refine hK.out _ _ (Or.inr (cif hb89)) (fun hG3 => wpN ?_); clear hK hG2
          refine wpS3 3 (.bool true) hG3 ?_; intro hG4; clear hG3
          refine wpS1 4 hG4 ?_; intro hG5; clear hG4
          refine wpS1 5 hG5 ?_; intro hG6; clear hG5
          refine wpS1 6 hG6 ?_; intro hG7; clear hG6
          refine wpS2 7 hG7 ?_; intro hG8; clear hG7
          refine wpS1 8 hG8 ?_; intro hG9; clear hG8
          refine wpS1 9 hG9 ?_; intro hG10; clear hG9
          refine wpS1 10 hG10 ?_; intro hG11; clear hG10
          refine wpS2 11 hG11 ?_; intro hG12; clear hG11
          refine wpS1 12 hG12 ?_; intro hG13; clear hG12
          refine wpS3 13 (.bool false) hG13 ?_; intro hG14; clear hG13
          refine wpS1 14 hG14 ?_; intro hG15; clear hG14
          refine wpS1 15 hG15 ?_; intro hG16; clear hG15
          refine wpS1 16 hG16 ?_; intro hG17; clear hG16
          refine wpS2 17 hG17 ?_; intro hG18; clear hG17
          refine wpS1 18 hG18 ?_; intro hG19; clear hG18
          refine wpS1 19 hG19 ?_; intro hG20; clear hG19
          refine wpS1 20 hG20 ?_; intro hG21; clear hG20
          refine wpS2 21 hG21 ?_; intro hG22; clear hG21
          refine wpS1 22 hG22 ?_; intro hG23; clear hG22
          refine wpS3 23 (.bool false) hG23 ?_; intro hG24; clear hG23
          refine wpS0 24 hG24 ?_; intro hG25; clear hG24
          refine wpS0 25 hG25 ?_; intro hG26; clear hG25
          refine wpS0 26 hG26 ?_; intro hG27; clear hG26
          refine wpS1 27 hG27 ?_; intro hG28; clear hG27
          refine wpS1 28 hG28 ?_; intro hG29; clear hG28
          refine wpAnyG_ready (rs := [29]) (by kernel_rfl) (by simp) (AllG.cons rfl hG29 (fun K hK => ?_) AllG.nil)
          (go_simp)
          refine hK.out _ _ (Or.inl rfl) (fun hG30 => wpN ?_); clear hK hG29
          refine wpAnyG_done (by kernel_rfl) ?_ _; clear hG30
          go_wp2
          go_roundw
          case rel => exact ⟨t + 1, by omega, by go_num, by rw [HV.out], hb69⟩
          case measure => simp [intOf]; omega
      ·obtain rfl : t = costs.length := by omega
       obtain ⟨w8, hw8⟩ : ∃ w8 : World, w8 = w7 := ⟨_, rfl⟩
       rw [← hw8] at hbt hb57 z7 z57 ⊢
       clear hw8
       have HOP := Lib.hid (HOP6.out.up hbt)
       have HR11c := Lib.hid (HR11.out.up hbt)
       have hb5v := hbk6.trans (hbt.mono z56)
       have z5v := hb5v.size
       obtain ⟨bb, hbb⟩ : ∃ bb, bb = (gk && !anyB costs.length (wrB costs l k)) := ⟨_, rfl⟩
       have HBB := Lib.hid (show (anyIn l k && !bdB costs l k) = bb by rw [hbb, HGK.out]; rfl)
       rw [← hbb]
       clear hbb
       cases bb
       ·have HNo := Lib.hid (show rfK costs l (k + 1) = kl by rw [rfK_no HBB.out, HKL.out])
        go_wp2
        go_roundw
        case rel => exact ⟨k + 1, A8, A9, c8, c9, xs, by omega, by go_num, by rw [HNo.out], by rw [HNo.out], by rw [HNo.out]; exact HOP, hb5v⟩
        case measure => simp [intOf]; omega
       ·have HYe := Lib.hid (show rfK costs l (k + 1) = kl ++ [k] by rw [rfK_yes HBB.out, HKL.out])
        have x1 := (hb57.cell (p := ⟨b1, o1 + k, none⟩) HB1.out).trans (HC1.out k hltk)
        have x2 : b1 < w8.heap.size := by have := HB1.out; omega
        have x3 : b1 < w.heap.size := HB1.out
        obtain ⟨co', hco⟩ : ∃ co', co' = nth costs k := ⟨_, rfl⟩
        rw [← hco] at x1
        obtain ⟨LR, hLR⟩ : ∃ LR, LR = opR l kl := ⟨_, rfl⟩
        obtain ⟨LB, hLB⟩ : ∃ LB, LB = opB costs kl := ⟨_, rfl⟩
        rw [← hLR, ← hLB] at HOP
        have HLRl := Lib.hid (show LR.length = kl.length by rw [hLR, opR_len])
        have HLBl := Lib.hid (show LB.length = kl.length by rw [hLB, opB_len])
        have HLRs := Lib.hid (show opR l (rfK costs l (k + 1)) = LR ++ [lnL l k l.length] by rw [HYe.out, opR_push, hLR])
        have HLBs := Lib.hid (show opB costs (rfK costs l (k + 1)) = LB ++ [(co', 1)] by rw [HYe.out, opB_push, hLB, hco])
        have HLn := Lib.hid (show (rfK costs l (k + 1)).length = kl.length + 1 by rw [HYe.out, List.length_append]; rfl)
        have Hl1 := Lib.hid (lnL_len (l := l) (o := k) (k := l.length))
        have HX5 := Lib.hid (show ∀ wx, Below w5.heap.size w5 wx → wx.cell? ⟨b1, o1 + k, none⟩ = some (.int .i64 co') from fun wx h => by
         have h2 := (hbel.trans (h.mono hbz)).cell (p := ⟨b1, o1 + k, none⟩) HB1.out
         rw [h2, HC1.out k hltk, hco])
        clear hLR hLB hco
        go_wp2_with fail
        refine wp_region_G 9 (fun w' => w'.cell? ⟨b1, o1 + k, none⟩ = some (.int .i64 co')) (by kernel_rfl) (x1) ?_
        intro hG0
        refine wpS1 0 hG0 ?_; intro hG1; clear hG0
        refine wpS1 1 hG1 ?_; intro hG2; clear hG1
        refine wpS1 4 hG2 ?_; intro hG3; clear hG2
        refine wpS1 5 hG3 ?_; intro hG4; clear hG3
        refine wpS1 6 hG4 ?_; intro hG5; clear hG4
        refine wpS1 7 hG5 ?_; intro hG6; clear hG5
        refine wpS2 8 hG6 ?_; intro hG7; clear hG6
        refine wpAnyG_ready (rs := [2]) (by kernel_rfl) (by simp) (AllG.cons rfl hG7 (fun K hK => ?_) AllG.nil)
        (go_simp)
        refine hK.out _ _ (Or.inr ((Below.cell (show Below w8.heap.size w8 _ by exact bel) (p := ⟨b1, o1 + k, none⟩) x2).trans x1)) (fun hG8 => wpN ?_); clear hK hG7
        refine wpAnyG_ready (rs := [3]) (by kernel_rfl) (by simp) (AllG.cons rfl hG8 (fun K hK => ?_) AllG.nil)
        (refine step_append_src (by rfl) _ _ 101 (by rfl) w5.heap.size 37 inr (.slice none 0 0) 1 24 undR7 hir jz0 jz1 jz2 rfl (by decide) (.slice A9 kl.length c9) LR.length xs (by rfl) (by exact own_below HOP.out.m (by exact bel)) (some ⟨w8.heap.size, 0, none⟩) 1 1 [.slice A11 l.length c11] (by rfl) (src_ofS (T := 37) (by exact heap_alloc_new _ _) rfl (one_one rfl)) (by unfold maxLen; have := HLRl.out; omega) (by have := HLRl.out; omega) (by first | (simp; done) | (simp; omega)) ?_; intro v9 w9 ho9 hg9 hat9; have hbC : Below w8.heap.size w8 (w8.drew.alloc (.cells #[.slice A11 l.length c11] 37)) := (by exact bel); have hb9 : Below w5.heap.size w5 w9 := Below.grown (hb5v.trans (hbC.mono z5v)) hg9 (Nat.le_trans z5v hbC.size) (fun g h => (HOP.out.m.lt g h).1); have z9 := hb9.size; have OP9 : Hid (OpW w9 w5.heap.size (LR ++ [lnL l k l.length]) LB (.slice A8 kl.length c8) v9 (xs ++ [.slice A11 (lnL l k l.length).length c11])) := Lib.hid (OpW.pushM (HOP.out.up hbC) HR11c.out.1 (factsAt_up HR11c.out.2.1 hbC) (fun p hp => (match (HR11c.out.2.2 p hp).1 with | ⟨cur, u, h5⟩ => ⟨⟨cur, u, (hbC.block _ (blk_lt h5)).trans h5⟩, HSB.out p hp⟩)) (by rw [Hl1.out]; exact ho9) hg9); obtain ⟨A29, c29, rfl⟩ := own_shapeL ho9 (show LR.length + 1 = kl.length + 1 by rw [HLRl.out]); clear ho9 hg9 hat9)
        refine hK.out _ _ (Or.inr (HX5.out _ hb9)) (fun hG9 => wpN ?_); clear hK hG8
        refine wpAnyG_ready (rs := [9]) (by kernel_rfl) (by simp) (AllG.cons rfl hG9 (fun K hK => ?_) AllG.nil)
        (go_simp; go_at_call 48; refine (KW.out _ _).mono ?_; rintro e wa ⟨rfl, hba⟩; have OPa := Lib.hid (OP9.out.up hba); have hb5a := hb9.trans (hba.mono z9); have z5a := hb5a.size; clear hba)
        refine hK.out _ _ (Or.inl rfl) (fun hG10 => wpN ?_); clear hK hG9
        refine wpAnyG_ready (rs := [10]) (by kernel_rfl) (by simp) (AllG.cons rfl hG10 (fun K hK => ?_) AllG.nil)
        (go_simp)
        refine hK.out _ _ (Or.inl rfl) (fun hG11 => wpN ?_); clear hK hG10
        refine wpAnyG_ready (rs := [11]) (by kernel_rfl) (by simp) (AllG.cons rfl hG11 (fun K hK => ?_) AllG.nil)
        (refine step_append_src (by rfl) _ _ 37 (by rfl) w5.heap.size 45 inf (.agg #[.int .i64 0, .int .i64 0]) 2 16 undC hi iz0 iz1 iz2 rfl (by decide) (.slice A8 kl.length c8) LB.length (fc LB) (by rfl) (by exact own_below OPa.out.b ((Below.refl _ _).alloc (Nat.le_refl _) _)) (some ⟨wa.heap.size, 0, none⟩) 1 1 [.int .i64 co', .int .i64 1] (by rfl) (src_ofS (T := 45) (by exact heap_alloc_new _ _) rfl (two_one rfl rfl)) (by unfold maxLen; have := HLBl.out; omega) (by have := HLBl.out; omega) (by first | (simp; done) | (simp; omega)) ?_; intro v10 w10 ho10 hg10 hat10; have OP10 : Hid (OpW w10 w5.heap.size (LR ++ [lnL l k l.length]) (LB ++ [(co', 1)]) v10 (.slice A29 (kl.length + 1) c29) (xs ++ [.slice A11 (lnL l k l.length).length c11])) := Lib.hid (OpW.pushB (OPa.out.up ((Below.refl _ _).alloc (Nat.le_refl _) _)) ho10 hg10 hat10); have hb10 : Below w5.heap.size w5 w10 := Below.grown (hb5a.alloc z5a _) hg10 (by simp; omega) (fun g h => (OPa.out.b.lt g h).1); obtain ⟨A30, c30, rfl⟩ := own_shapeL ho10 (show LB.length + 1 = kl.length + 1 by rw [HLBl.out]); clear ho10 hg10 hat10)
        refine hK.out _ _ (Or.inl rfl) (fun hG12 => wpN ?_); clear hK hG11
        refine wpS1 12 hG12 ?_; intro hG13; clear hG12
        refine wpS1 13 hG13 ?_; intro hG14; clear hG13
        refine wpAnyG_done (by kernel_rfl) ?_ _; clear hG14
        go_wp2
        go_roundw
        case rel => exact ⟨k + 1, A30, A29, c30, c29, _, by omega, by go_num, by rw [HLn.out], by rw [HLn.out], by rw [HLRs.out, HLBs.out, HLn.out]; exact OP10, hb10⟩
        case measure => simp [intOf]; omega
    ·obtain rfl : k = costs.length := by omega
     have HKe := Lib.hid (show kl = keptL costs l by rw [HKL.out, rfK_kept])
     obtain ⟨LR, hLR⟩ : ∃ LR, LR = opR l kl := ⟨_, rfl⟩
     obtain ⟨LB, hLB⟩ : ∃ LB, LB = opB costs kl := ⟨_, rfl⟩
     rw [← hLR, ← hLB] at hop
     have HLRl := Lib.hid (show LR.length = kl.length by rw [hLR, opR_len])
     have HLBl := Lib.hid (show LB.length = kl.length by rw [hLB, opB_len])
     have HLR := Lib.hid hLR
     have HLB := Lib.hid hLB
     have zm := own_nil0 hop.out.m
     have zb := own_nil0 hop.out.b
     obtain ⟨Am, cm, em, hM⟩ := mx_of_own hop.out.m hop.out.sls (by have := HLRl.out; omega)
     obtain ⟨Ab, cb, eb, _, hB⟩ := own_fracs hop.out.b (by have := HLBl.out; omega)
     injection em with em1 em2 em3
     injection eb with eb1 eb2 eb3
     subst em1 eb1
     have KS := Lib.hid (by have := rsolve_any (onL l.length) LR LB A' A9 A8 c' c9 c8 wv (factsAt_up HFo.out hbk) hM hB HZo.out zm zb; rw [onL_len, HLRl.out, HLBl.out] at this; exact this : Calls Tryz.prog 51 #[.slice A' l.length c', .slice A9 kl.length c9, .slice A8 kl.length c8] wv fun e w' => RSolRet (onL l.length) LR LB e w' ∧ Below wv.heap.size wv w')
     clear hLR hLB em2 em3 eb2 eb3 hM hB hop zm zb
     go_wp2_with fail
     refine KS.out.mono ?_
     rintro e w7 ⟨hs, hb7⟩
     have B7 := hbv.trans (hb7.mono zvw)
     have z7 := B7.size
     clear hb7
     have HC0 : chk37 (onL l.length) LR LB = 0 := by rw [HLR.out, HLB.out, HKe.out]; exact opt_chk G.out hn
     rcases hs with ⟨hne, _⟩ | ⟨h0, ⟨cd, hcd, hf, he⟩ | ⟨T, A3, c3, A4, c4, hf, he, hx, _⟩⟩
     ·exact absurd HC0 hne
     ·obtain rfl := he
      rw [onL_len, HLRl.out, HLR.out, HLB.out, HKe.out] at hf
      have HF := Lib.hid (show ∀ w', RPoRet costs l (.returned (.tuple #[.slice none 0 0, .int .i64 cd])) w' from fun w' => .inr ⟨E0.out, .inl ⟨cd, hcd, hf, rfl⟩⟩)
      clear hf h0 HC0 hcd
      go_wp2
      refine bodyPost_ret (v := .tuple #[.slice none 0 0, .int .i64 cd]) (by simp [results, Tryz.results23, go_sem]) rfl ⟨HF.out _, by exact bel⟩
     ·rw [onL_len, HLRl.out] at he
      subst he
      rw [onL_len, HLRl.out, HLR.out, HLB.out, HKe.out] at hf
      rw [onL_len, HLRl.out, HKe.out] at hx
      have HF := Lib.hid (show ∀ w', FactsAt w' w'.heap.size A3 (frq (xB (keptL costs l).length T) l.length) → RPoRet costs l (.returned (.tuple #[.slice A3 l.length c3, .int .i64 0])) w' from fun w' hx' => .inr ⟨E0.out, .inr ⟨T, A3, c3, hf, rfl, hx'⟩⟩)
      have HX := Lib.hid hx
      clear hf h0 HC0 hx
      go_wp2
      refine bodyPost_ret (v := .tuple #[.slice A3 l.length c3, .int .i64 0]) (by simp [results, Tryz.results23, go_sem]) rfl ⟨HF.out _ (factsAt_up HX.out ((Below.refl _ _).alloc (Nat.le_refl _) _)), by exact bel⟩

end Go.Proofs.YtaampjhdgeoicaaGreat
