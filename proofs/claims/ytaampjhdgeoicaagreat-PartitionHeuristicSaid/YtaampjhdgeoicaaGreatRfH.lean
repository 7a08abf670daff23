/- The reference's Step. -/
import Derived.Test.YtaampjhdgeoicaaGreatMfA
import Derived.Test.YtaampjhdgeoicaaGreatRfG
namespace Go.Proofs.YtaampjhdgeoicaaGreat
set_option linter.unusedSimpArgs false
set_option linter.unusedVariables false
open Go Go.RowKit
set_option linter.unusedVariables false

theorem frq_cells {w : World} {S : Option Addr} {f : Nat → Rat} {N : Nat} (h : FactsAt w w.heap.size S (frq f N)) (h0 : 0 < N) : ∃ b o, S = some ⟨b, o, none⟩ ∧ b < w.heap.size ∧ ∀ j, j < N → w.cell? ⟨b, o + j * 2, none⟩ = some (.int .i64 (f j).num) ∧ w.cell? ⟨b, o + j * 2 + 1, none⟩ = some (.int .i64 (f j).den) := by
 obtain ⟨b, o, e, hb, hc⟩ := h.at_ (k := 0) (by rw [frq_len]; exact h0)
 refine ⟨b, o, e, hb, fun j hj => ?_⟩
 have h1 := hc j (by rw [frq_len]; exact hj)
 rw [(frq_at hj).1, (frq_at hj).2] at h1
 exact h1
section
variable {w w' : World} {m N1 i : Nat} {F : Nat → Nat → Rat} {g : Nat → Rat} {f : Nat → Nat} {A0 A1 A2 : Option Addr} {c2 : Nat}
theorem TabAt.row_at (h : TabAt w m N1 F g f A0 A1 A2 c2) (hi : i < m) : ∃ b off, A0 = some ⟨b, off, none⟩ ∧ b < w.heap.size ∧ ∀ i, i < m → ∃ S c, w.cell? ⟨b, off + i, none⟩ = some (.slice S N1 c) ∧ FactsAt w w.heap.size S (frq (F i) N1) := by
 obtain ⟨b, off, e, hb, hc⟩ := h.rows.at_ (i := i) (by rw [rwsL_len]; exact hi)
 refine ⟨b, off, e, hb, fun j hj => ?_⟩
 obtain ⟨S, c, h1, _, h2⟩ := hc j (by rw [rwsL_len]; exact hj)
 rw [mr_rws hj] at h1 h2
 rw [frq_len] at h1
 exact ⟨S, c, h1, h2⟩
theorem TabAt.bas_at (h : TabAt w m N1 F g f A0 A1 A2 c2) (hi : i < m) : ∃ b off, A2 = some ⟨b, off, none⟩ ∧ b < w.heap.size ∧ ∀ i, i < m → w.cell? ⟨b, off + i, none⟩ = some (.int .i64 (f i)) := by
 obtain ⟨b, off, e, hb, hc⟩ := h.bas.at_ (k := i) (by rw [basL_len]; exact hi)
 refine ⟨b, off, e, hb, fun j hj => ?_⟩
 have h1 := hc j (by rw [basL_len]; exact hj)
 rw [basL_at hj] at h1
 exact h1
end
theorem put3_row {w : World} {RB g n : Nat} {t : TypeId} {f : Nat → Value} {a0 a1 a2 u0 u1 u2 : Value} (hT : Tx w RB a0 a1 a2) (h : rowGe w g t n f) (hne : t ≠ 152) : rowGe (((w.setCell ⟨RB, 0, none⟩ u0).setCell ⟨RB, 1, none⟩ u1).setCell ⟨RB, 2, none⟩ u2) g t n f := by
 have hn : g ≠ RB := rows_apart h hT hne
 exact rowGe.of_block h (((Below.heap_setCell _ _ _ _ hn).trans (Below.heap_setCell _ _ _ _ hn)).trans (Below.heap_setCell _ _ _ _ hn))
theorem tabR_of {w : World} {T : TB} {m N N1 : Nat} {A0 A1 A2 : Option Addr} {c0 c1 c2 : Nat} (hN : N1 = N + 1) (h : TabT w m N1 (rowF T N) (objF T N) T.B A0 A1 A2 c2) : TabR w T m N (.agg #[.slice A0 m c0, .slice A1 N1 c1, .slice A2 m c2]) := by subst hN; exact ⟨_, _, _, _, _, _, rfl, h⟩
theorem put3_below {w W : World} {B RB : Nat} {u0 u1 u2 : Value} (h : Below B W w) (hB : B ≤ RB) : Below B W (((w.setCell ⟨RB, 0, none⟩ u0).setCell ⟨RB, 1, none⟩ u1).setCell ⟨RB, 2, none⟩ u2) := ((h.setCell (p := ⟨RB, 0, none⟩) hB _).setCell (p := ⟨RB, 1, none⟩) hB _).setCell (p := ⟨RB, 2, none⟩) hB _

set_option maxRecDepth 100000 in
set_option maxHeartbeats 8000000 in
theorem step_any (T : TB) (m N : Nat) (v : Value) (w : World) (hT : TabR w T m N v) (hs : Sml m N T) (hm : m ≤ 24) (hN : N ≤ 48) :
  Calls Tryz.prog 83 #[v] w fun e w' => StRet m N T e w' ∧ Below w.heap.size w w' := by
 obtain ⟨A0, A1, A2, c0, c1, c2, rfl, hAT⟩ := hT
 have hA := hAT.at_ (by omega) (by omega)
 have HAT := Lib.hid hAT
 have HA := Lib.hid hA
 have HS := Lib.hid hs
 obtain ⟨N1, hN1⟩ : ∃ N1, N1 = N + 1 := ⟨_, rfl⟩
 have HN1 := Lib.hid hN1
 have q1 : IntKind.i64.wrap ((N1 : Int) - 1) = (N : Int) := by rw [IntWalk.i64_in _ (by omega)]; omega
 have hN1' : N < N1 := by omega
 have hN2 : N1 ≤ 49 := by omega
 rw [← hN1] at HA HAT ⊢
 clear hA hAT hs hN1
 obtain ⟨inf, hi, iz0, iz1, iz2⟩ := info_parts infoC
 obtain ⟨inr, hir, jz0, jz1, jz2⟩ := info_parts infoRw
 obtain ⟨ini, hii, kz0, kz1, kz2⟩ := info_parts infoIc
 go_enter Tryz.func83, Tryz.ntmps83
 go_upto_region 1 with fail
 have hTB := (Tx.new w (.slice A0 m c0) (.slice A1 N1 c1) (.slice A2 m c2)).up ((Below.refl _ _).alloc (Nat.le_refl _) (.cells #[.slice none 0 0, .slice none 0 0, .slice none 0 0] 152))
 have hRB := Tx.new (w.alloc (.cells #[.slice A0 m c0, .slice A1 N1 c1, .slice A2 m c2] 152)) (.slice none 0 0) (.slice none 0 0) (.slice none 0 0)
 have hb2 : Below w.heap.size w ((w.alloc (.cells #[.slice A0 m c0, .slice A1 N1 c1, .slice A2 m c2] 152)).alloc (.cells #[.slice none 0 0, .slice none 0 0, .slice none 0 0] 152)) := ((Below.refl _ _).alloc (Nat.le_refl _) _).alloc (by simp) _
 rw [World.size_alloc] at hRB
 obtain ⟨w2, hw2⟩ : ∃ w2, w2 = (w.alloc (.cells #[.slice A0 m c0, .slice A1 N1 c1, .slice A2 m c2] 152)).alloc (.cells #[.slice none 0 0, .slice none 0 0, .slice none 0 0] 152) := ⟨_, rfl⟩
 obtain ⟨TX, hTX⟩ : ∃ TX, TX = w.heap.size := ⟨_, rfl⟩
 obtain ⟨RB, hRX⟩ : ∃ RB, RB = w.heap.size + 1 := ⟨_, rfl⟩
 rw [← hw2] at hTB hRB hb2 ⊢
 rw [← hRX] at hRB ⊢
 rw [← hTX] at hTB ⊢
 have hne : TX ≠ RB := by omega
 have HRw := Lib.hid (show w.heap.size ≤ RB by omega)
 have HTB := Lib.hid hTB
 have HRB := Lib.hid hRB
 have HB2 := Lib.hid hb2
 have HA2 := Lib.hid (fun wx (h : Below w2.heap.size w2 wx) => HA.out.up (hb2.trans (h.mono hb2.size)))
 have z2 := hb2.size
 have t0 := hTB.c0
 have t1 := hTB.c1
 have t3 := hTB.lt
 clear hw2 hTX hRX hTB hRB hb2
 go_wp2
 clear t0 t1 t3
 go_loopw [6] (fun kv wr => ∃ k : Nat, k ≤ N ∧ kv = .int .i64 k ∧ Hid (∀ j, j < k → ¬ 0 < T.c j) ∧ Below w2.heap.size w2 wr) (fun kv _ => N - (intOf kv).toNat)
 case atStart => exact ⟨0, by omega, rfl, Lib.hid (fun j hj => absurd hj (by omega)), Below.refl _ _⟩
 case round =>
  obtain ⟨k, hk, rfl, hno, hbel⟩ := hrel
  obtain ⟨w3, hw3⟩ : ∃ w3 : World, w3 = wr := ⟨_, rfl⟩
  rw [← hw3] at hbel ⊢
  clear hw3
  have z3 := hbel.size
  have hTB := HTB.out.up hbel
  have t0 := hTB.c0
  have t1 := hTB.c1
  have t3 := hTB.lt
  obtain ⟨b1, o1, ea, hb1, hc1⟩ := frq_cells (HA2.out _ hbel).obj (by omega)
  subst ea
  have HBF := Lib.hid (HB2.out.trans (hbel.mono z2))
  by_cases hlt : k < N
  ·have hc := (hc1 k (by omega)).1
   rw [objF_lt hlt] at hc
   have k0 : (0 : Int) ≤ (k : Int) := by omega
   have k1 : (k : Int) < (N1 : Int) := by omega
   have k2 : (k : Int) < (N : Int) := by omega
   by_cases hp : 0 < T.c k
   ·have e1 : decide ((T.c k).num ≤ 0) = false := decide_eq_false (by have := rep_pos.2 hp; omega)
    have e2 : ((k : Int) == (N : Int)) = false := by simp; omega
    have HEnt := Lib.hid (show Ent N T k from ⟨hlt, hp, hno.out⟩)
    clear hp
    go_wp2
    clear e1 e2 hc hc1 t0 t1 t3 hTB hno
    go_loopw [7, 43] (fun rv iv wr => ∃ (i : Nat) (r : Int), i ≤ m ∧ iv = .int .i64 i ∧ rv = .int .i64 r ∧ Hid (BestAt T k i r) ∧ Below w2.heap.size w2 wr) (fun _ iv _ => m - (intOf iv).toNat)
    case atStart => exact ⟨0, -1, by omega, rfl, rfl, Lib.hid best_zero, hbel⟩
    case round =>
     clear hbel z3 HBF hb1
     obtain ⟨i, rr, hi', rfl, rfl, hB, hbel⟩ := hrel
     obtain ⟨w4, hw4⟩ : ∃ w4 : World, w4 = wr := ⟨_, rfl⟩
     rw [← hw4] at hbel ⊢
     clear hw4
     have z4 := hbel.size
     have HBF := Lib.hid (HB2.out.trans (hbel.mono z2))
     have HA4 := Lib.hid (HA2.out _ hbel)
     have HT4 := Lib.hid (HTB.out.up hbel)
     by_cases hlti : i < m
     ·obtain ⟨b0, o0, ea, hb0, hrow⟩ := HA4.out.row_at hlti
      subst ea
      obtain ⟨Si, ci, d0, hSi⟩ := hrow i hlti
      obtain ⟨bi, oi, rfl, hbi, hci⟩ := frq_cells hSi (by omega)
      have d1 := (hci k (by omega)).1
      have d2 := (hci k (by omega)).2
      rw [rowF_lt hlt] at d1 d2
      have i0 : (0 : Int) ≤ (i : Int) := by omega
      have i1 : (i : Int) < (m : Int) := by omega
      by_cases hp : 0 < T.a i k
      ·have e1 : decide ((T.a i k).num ≤ 0) = false := decide_eq_false (by have := rep_pos.2 hp; omega)
       rcases hB.out with ⟨rfl, hno⟩ | ⟨r, rfl, hL, hR⟩
       ·have HN := Lib.hid (best_first hno hp)
        clear hno hp hci hrow hSi
        go_wp2
        go_roundw
        case rel => exact ⟨i + 1, i, by omega, by go_num, rfl, HN, hbel⟩
        case measure => simp [intOf]; omega
       ·obtain ⟨Sr, cr', d3, hSr⟩ := hrow r (by have := hL.1; omega)
        obtain ⟨br, or', rfl, hbr, hcr⟩ := frq_cells hSr (by omega)
        obtain ⟨d4, d5⟩ := hcr k (by omega)
        obtain ⟨d6, d7⟩ := hcr N (by omega)
        obtain ⟨d8, d9⟩ := hci N (by omega)
        rw [rowF_lt hlt] at d4 d5
        rw [rowF_last] at d6 d7 d8 d9
        obtain ⟨bb, ob, ec, hbb, hbas⟩ := HA4.out.bas_at hlti
        subst ec
        have HD8 := Lib.hid (hbas i hlti)
        have HD9 := Lib.hid (hbas r (by have := hL.1; omega))
        have r0 : (0 : Int) ≤ (r : Int) := by omega
        have r1 : (r : Int) < (m : Int) := by have := hL.1; omega
        have n0 : (0 : Int) ≤ (N : Int) := by omega
        have n1 : (N : Int) < (N1 : Int) := by omega
        have t0 := HT4.out.c0
        have t3 := HT4.out.lt
        have P1 := Lib.hid (HS.out.b i hlti)
        have P2 := Lib.hid (HS.out.a i hlti k hlt)
        have P3 := Lib.hid (HS.out.b r (by have := hL.1; omega))
        have P4 := Lib.hid (HS.out.a r (by have := hL.1; omega) k hlt)
        have P5 := Lib.hid (show T.a i k ≠ 0 by grind)
        have P6 := Lib.hid (show T.a r k ≠ 0 by have := hL.2.1; grind)
        clear hci hcr hrow hSi hSr hbas
        by_cases hq : Rep (T.b i / T.a i k) ∧ Rep (T.b r / T.a r k)
        case neg =>
         have K5 := Lib.hid (fun wx => ((ratio_any (T.b i) (T.a i k) (T.b r) (T.a r k) wx P1.out P2.out P3.out P4.out P5.out P6.out).mono fun e w' ⟨h, hb⟩ => ⟨by
          rcases h with ⟨_, h⟩ | ⟨h1, h2, _⟩
          ·exact h
          ·exact absurd ⟨h1, h2⟩ hq, hb⟩ : Calls Tryz.prog 106 #[.agg #[.int .i64 (T.b i).num, .int .i64 (T.b i).den], .agg #[.int .i64 (T.a i k).num, .int .i64 (T.a i k).den], .agg #[.int .i64 (T.b r).num, .int .i64 (T.b r).den], .agg #[.int .i64 (T.a r k).num, .int .i64 (T.a r k).den]] wx fun e w' => e = .returned (.tuple #[.int .i64 0, .bool false]) ∧ Below wx.heap.size wx w'))
         have HLs := Lib.hid (show Last m N T (.err 5) from .ratio HEnt.out (rat_bad hL hlti hp hq))
         clear hq hp hL hR
         go_wp2_with fail
         refine wp_region_G 24 (fun w' => ∀ b o, w'.cell? ⟨b, o, none⟩ = if b < w4.heap.size then w4.cell? ⟨b, o, none⟩ else hidC w' b o) (by kernel_rfl) (cif (B := w4.heap.size) (W := w4) (Below.refl _ _).drew) ?_
         intro hG0
         refine wpS1 0 hG0 ?_; intro hG1; clear hG0
         refine wpS1 1 hG1 ?_; intro hG2; clear hG1
         refine wpS1 2 hG2 ?_; intro hG3; clear hG2
         refine wpS2 3 hG3 ?_; intro hG4; clear hG3
         refine wpS1 4 hG4 ?_; intro hG5; clear hG4
         refine wpS1 5 hG5 ?_; intro hG6; clear hG5
         refine wpS1 6 hG6 ?_; intro hG7; clear hG6
         refine wpS2 7 hG7 ?_; intro hG8; clear hG7
         refine wpS1 8 hG8 ?_; intro hG9; clear hG8
         refine wpS2 9 hG9 ?_; intro hG10; clear hG9
         refine wpS1 10 hG10 ?_; intro hG11; clear hG10
         refine wpS1 11 hG11 ?_; intro hG12; clear hG11
         refine wpS2 12 hG12 ?_; intro hG13; clear hG12
         refine wpS1 13 hG13 ?_; intro hG14; clear hG13
         refine wpS1 14 hG14 ?_; intro hG15; clear hG14
         refine wpS2 15 hG15 ?_; intro hG16; clear hG15
         refine wpS1 16 hG16 ?_; intro hG17; clear hG16
         refine wpS2 17 hG17 ?_; intro hG18; clear hG17
         refine wpS1 18 hG18 ?_; intro hG19; clear hG18
         refine wpS1 19 hG19 ?_; intro hG20; clear hG19
         refine wpS2 20 hG20 ?_; intro hG21; clear hG20
         refine wpS1 21 hG21 ?_; intro hG22; clear hG21
         refine wpS1 22 hG22 ?_; intro hG23; clear hG22
         refine wpS2 23 hG23 ?_; intro hG24; clear hG23
         refine wpAnyG_ready (rs := [24]) (by kernel_rfl) (by simp) (AllG.cons rfl hG24 (fun K hK => ?_) AllG.nil)
         (go_simp; go_at_call 106; refine (K5.out _).mono ?_; rintro e w5 ⟨rfl, hb5⟩; have hb45 : Below w4.heap.size w4 w5 := (Below.refl _ _).drew.trans hb5; clear hb5)
         refine hK.out _ _ (Or.inl rfl) (fun hG25 => wpN ?_); clear hK hG24
         refine wpS1 25 hG25 ?_; intro hG26; clear hG25
         refine wpS1 26 hG26 ?_; intro hG27; clear hG26
         refine wpS1 27 hG27 ?_; intro hG28; clear hG27
         refine wpS1 28 hG28 ?_; intro hG29; clear hG28
         refine wpS1 29 hG29 ?_; intro hG30; clear hG29
         refine wpAnyG_done (by kernel_rfl) ?_ _; clear hG30
         have hb25 := hbel.trans (hb45.mono z4)
         have z5 := hb25.size
         clear d0 d1 d2 d3 d4 d5 d6 d7 d8 d9 t0 t3
         have HT5 := HT4.out.up hb45
         have t0 := HT5.c0
         have t1 := HT5.c1
         have t2 := HT5.c2
         have t3 := HT5.lt
         have HRx := Lib.hid (HRB.out.up hb25)
         have x0 := HRx.out.fz 0
         have x1 := HRx.out.fz 1
         have x2 := HRx.out.fz 2
         have x3 := HRx.out.lt
         have x4 := HRx.out.c0
         have x5 := HRx.out.c1
         have x6 := HRx.out.c2
         have HBF := Lib.hid (HB2.out.trans (hb25.mono z2))
         clear HT5
         go_wp2
         refine bodyPost_ret (v := .tuple #[.agg #[.slice (some ⟨b0, o0, none⟩) m c0, .slice (some ⟨b1, o1, none⟩) N1 c1, .slice (some ⟨bb, ob, none⟩) m c2], .bool false, .int .i64 5]) (by simp [results, Tryz.results83, go_sem, ↓IntWalk.iteOmega, *]) rfl ?_
         have hbF := put3_below (u0 := .slice (some ⟨b0, o0, none⟩) m c0) (u1 := .slice (some ⟨b1, o1, none⟩) N1 c1) (u2 := .slice (some ⟨bb, ob, none⟩) m c2) HBF.out HRw.out
         exact ⟨⟨_, _, _, rfl, .inr (.inr ⟨rfl, by decide, tabR_of HN1.out (HAT.out.up hbF), HLs.out⟩)⟩, hbF⟩
        case pos =>
         have hQ := Lib.hid hq
         by_cases ha : T.b i / T.a i k < T.b r / T.a r k
         ·have hz := Lib.hid (show (if T.b i / T.a i k < T.b r / T.a r k then (-1 : Int) else if T.b r / T.a r k < T.b i / T.a i k then 1 else 0) = -1 from if_pos ha)
          have HN := Lib.hid (best_new hL hR hp hq.1 hq.2 (.inl ha))
          clear hq hp hL hR ha
          have K5 := Lib.hid (fun wx => ((ratio_any (T.b i) (T.a i k) (T.b r) (T.a r k) wx P1.out P2.out P3.out P4.out P5.out P6.out).mono fun e w' ⟨h, hb⟩ => ⟨by
           rcases h with ⟨h, _⟩ | ⟨_, _, h⟩
           ·exact absurd hQ.out h
           ·rw [h, hz.out], hb⟩ : Calls Tryz.prog 106 #[.agg #[.int .i64 (T.b i).num, .int .i64 (T.b i).den], .agg #[.int .i64 (T.a i k).num, .int .i64 (T.a i k).den], .agg #[.int .i64 (T.b r).num, .int .i64 (T.b r).den], .agg #[.int .i64 (T.a r k).num, .int .i64 (T.a r k).den]] wx fun e w' => e = .returned (.tuple #[.int .i64 (-1), .bool true]) ∧ Below wx.heap.size wx w'))
          go_wp2_with fail
          refine wp_region_G 24 (fun w' => ∀ b o, w'.cell? ⟨b, o, none⟩ = if b < w4.heap.size then w4.cell? ⟨b, o, none⟩ else hidC w' b o) (by kernel_rfl) (cif (B := w4.heap.size) (W := w4) (Below.refl _ _).drew) ?_
          intro hG0
          refine wpS1 0 hG0 ?_; intro hG1; clear hG0
          refine wpS1 1 hG1 ?_; intro hG2; clear hG1
          refine wpS1 2 hG2 ?_; intro hG3; clear hG2
          refine wpS2 3 hG3 ?_; intro hG4; clear hG3
          refine wpS1 4 hG4 ?_; intro hG5; clear hG4
          refine wpS1 5 hG5 ?_; intro hG6; clear hG5
          refine wpS1 6 hG6 ?_; intro hG7; clear hG6
          refine wpS2 7 hG7 ?_; intro hG8; clear hG7
          refine wpS1 8 hG8 ?_; intro hG9; clear hG8
          refine wpS2 9 hG9 ?_; intro hG10; clear hG9
          refine wpS1 10 hG10 ?_; intro hG11; clear hG10
          refine wpS1 11 hG11 ?_; intro hG12; clear hG11
          refine wpS2 12 hG12 ?_; intro hG13; clear hG12
          refine wpS1 13 hG13 ?_; intro hG14; clear hG13
          refine wpS1 14 hG14 ?_; intro hG15; clear hG14
          refine wpS2 15 hG15 ?_; intro hG16; clear hG15
          refine wpS1 16 hG16 ?_; intro hG17; clear hG16
          refine wpS2 17 hG17 ?_; intro hG18; clear hG17
          refine wpS1 18 hG18 ?_; intro hG19; clear hG18
          refine wpS1 19 hG19 ?_; intro hG20; clear hG19
          refine wpS2 20 hG20 ?_; intro hG21; clear hG20
          refine wpS1 21 hG21 ?_; intro hG22; clear hG21
          refine wpS1 22 hG22 ?_; intro hG23; clear hG22
          refine wpS2 23 hG23 ?_; intro hG24; clear hG23
          refine wpAnyG_ready (rs := [24]) (by kernel_rfl) (by simp) (AllG.cons rfl hG24 (fun K hK => ?_) AllG.nil)
          (go_simp; go_at_call 106; refine (K5.out _).mono ?_; rintro e w5 ⟨rfl, hb5⟩; have hb45 : Below w4.heap.size w4 w5 := (Below.refl _ _).drew.trans hb5; clear hb5)
          refine hK.out _ _ (Or.inl rfl) (fun hG25 => wpN ?_); clear hK hG24
          refine wpS1 25 hG25 ?_; intro hG26; clear hG25
          refine wpS1 26 hG26 ?_; intro hG27; clear hG26
          refine wpS1 27 hG27 ?_; intro hG28; clear hG27
          refine wpS1 28 hG28 ?_; intro hG29; clear hG28
          refine wpS1 29 hG29 ?_; intro hG30; clear hG29
          refine wpAnyG_done (by kernel_rfl) ?_ _; clear hG30
          have hb25 := hbel.trans (hb45.mono z4)
          have z5 := hb25.size
          clear d0 d1 d2 d3 d4 d5 d6 d7 d8 d9 t0 t3
          go_wp2_with fail
          go_quiet (fail)
          go_wp2
          go_roundw
          case rel => exact ⟨i + 1, i, by omega, by go_num, rfl, HN, below_dN hb25 _⟩
          case measure => simp [intOf]; omega
         ·by_cases hb' : T.b r / T.a r k < T.b i / T.a i k
          ·have hz := Lib.hid (show (if T.b i / T.a i k < T.b r / T.a r k then (-1 : Int) else if T.b r / T.a r k < T.b i / T.a i k then 1 else 0) = 1 by rw [if_neg ha, if_pos hb'])
           have HN := Lib.hid (best_keep hL hR hp hq.1 hq.2 (.inl hb'))
           clear hq hp hL hR ha hb'
           have K5 := Lib.hid (fun wx => ((ratio_any (T.b i) (T.a i k) (T.b r) (T.a r k) wx P1.out P2.out P3.out P4.out P5.out P6.out).mono fun e w' ⟨h, hb⟩ => ⟨by
            rcases h with ⟨h, _⟩ | ⟨_, _, h⟩
            ·exact absurd hQ.out h
            ·rw [h, hz.out], hb⟩ : Calls Tryz.prog 106 #[.agg #[.int .i64 (T.b i).num, .int .i64 (T.b i).den], .agg #[.int .i64 (T.a i k).num, .int .i64 (T.a i k).den], .agg #[.int .i64 (T.b r).num, .int .i64 (T.b r).den], .agg #[.int .i64 (T.a r k).num, .int .i64 (T.a r k).den]] wx fun e w' => e = .returned (.tuple #[.int .i64 (1), .bool true]) ∧ Below wx.heap.size wx w'))
           go_wp2_with fail
           refine wp_region_G 24 (fun w' => ∀ b o, w'.cell? ⟨b, o, none⟩ = if b < w4.heap.size then w4.cell? ⟨b, o, none⟩ else hidC w' b o) (by kernel_rfl) (cif (B := w4.heap.size) (W := w4) (Below.refl _ _).drew) ?_
           intro hG0
           refine wpS1 0 hG0 ?_; intro hG1; clear hG0
           refine wpS1 1 hG1 ?_; intro hG2; clear hG1
           refine wpS1 2 hG2 ?_; intro hG3; clear hG2
           refine wpS2 3 hG3 ?_; intro hG4; clear hG3
           refine wpS1 4 hG4 ?_; intro hG5; clear hG4
           refine wpS1 5 hG5 ?_; intro hG6; clear hG5
           refine wpS1 6 hG6 ?_; intro hG7; clear hG6
           refine wpS2 7 hG7 ?_; intro hG8; clear hG7
           refine wpS1 8 hG8 ?_; intro hG9; clear hG8
           refine wpS2 9 hG9 ?_; intro hG10; clear hG9
           refine wpS1 10 hG10 ?_; intro hG11; clear hG10
           refine wpS1 11 hG11 ?_; intro hG12; clear hG11
           refine wpS2 12 hG12 ?_; intro hG13; clear hG12
           refine wpS1 13 hG13 ?_; intro hG14; clear hG13
           refine wpS1 14 hG14 ?_; intro hG15; clear hG14
           refine wpS2 15 hG15 ?_; intro hG16; clear hG15
           refine wpS1 16 hG16 ?_; intro hG17; clear hG16
           refine wpS2 17 hG17 ?_; intro hG18; clear hG17
           refine wpS1 18 hG18 ?_; intro hG19; clear hG18
           refine wpS1 19 hG19 ?_; intro hG20; clear hG19
           refine wpS2 20 hG20 ?_; intro hG21; clear hG20
           refine wpS1 21 hG21 ?_; intro hG22; clear hG21
           refine wpS1 22 hG22 ?_; intro hG23; clear hG22
           refine wpS2 23 hG23 ?_; intro hG24; clear hG23
           refine wpAnyG_ready (rs := [24]) (by kernel_rfl) (by simp) (AllG.cons rfl hG24 (fun K hK => ?_) AllG.nil)
           (go_simp; go_at_call 106; refine (K5.out _).mono ?_; rintro e w5 ⟨rfl, hb5⟩; have hb45 : Below w4.heap.size w4 w5 := (Below.refl _ _).drew.trans hb5; clear hb5)
           refine hK.out _ _ (Or.inl rfl) (fun hG25 => wpN ?_); clear hK hG24
           refine wpS1 25 hG25 ?_; intro hG26; clear hG25
           refine wpS1 26 hG26 ?_; intro hG27; clear hG26
           refine wpS1 27 hG27 ?_; intro hG28; clear hG27
           refine wpS1 28 hG28 ?_; intro hG29; clear hG28
           refine wpS1 29 hG29 ?_; intro hG30; clear hG29
           refine wpAnyG_done (by kernel_rfl) ?_ _; clear hG30
           have hb25 := hbel.trans (hb45.mono z4)
           have z5 := hb25.size
           clear d0 d1 d2 d3 d4 d5 d6 d7 d8 d9 t0 t3
           go_wp2_with fail
           go_quiet (fail)
           go_wp2
           go_roundw
           case rel => exact ⟨i + 1, r, by omega, by go_num, rfl, HN, below_dN hb25 _⟩
           case measure => simp [intOf]; omega
          ·have hz := Lib.hid (show (if T.b i / T.a i k < T.b r / T.a r k then (-1 : Int) else if T.b r / T.a r k < T.b i / T.a i k then 1 else 0) = 0 by rw [if_neg ha, if_neg hb'])
           have heq : T.b i / T.a i k = T.b r / T.a r k := by grind
           by_cases hB' : T.B i < T.B r
           ·have HN := Lib.hid (best_new hL hR hp hq.1 hq.2 (.inr ⟨heq, hB'⟩))
            have HB' := Lib.hid hB'
            clear hq hp hL hR ha hb' hB' heq
            have K5 := Lib.hid (fun wx => ((ratio_any (T.b i) (T.a i k) (T.b r) (T.a r k) wx P1.out P2.out P3.out P4.out P5.out P6.out).mono fun e w' ⟨h, hb⟩ => ⟨by
             rcases h with ⟨h, _⟩ | ⟨_, _, h⟩
             ·exact absurd hQ.out h
             ·rw [h, hz.out], hb⟩ : Calls Tryz.prog 106 #[.agg #[.int .i64 (T.b i).num, .int .i64 (T.b i).den], .agg #[.int .i64 (T.a i k).num, .int .i64 (T.a i k).den], .agg #[.int .i64 (T.b r).num, .int .i64 (T.b r).den], .agg #[.int .i64 (T.a r k).num, .int .i64 (T.a r k).den]] wx fun e w' => e = .returned (.tuple #[.int .i64 (0), .bool true]) ∧ Below wx.heap.size wx w'))
            go_wp2_with fail
            refine wp_region_G 24 (fun w' => ∀ b o, w'.cell? ⟨b, o, none⟩ = if b < w4.heap.size then w4.cell? ⟨b, o, none⟩ else hidC w' b o) (by kernel_rfl) (cif (B := w4.heap.size) (W := w4) (Below.refl _ _).drew) ?_
            intro hG0
            refine wpS1 0 hG0 ?_; intro hG1; clear hG0
            refine wpS1 1 hG1 ?_; intro hG2; clear hG1
            refine wpS1 2 hG2 ?_; intro hG3; clear hG2
            refine wpS2 3 hG3 ?_; intro hG4; clear hG3
            refine wpS1 4 hG4 ?_; intro hG5; clear hG4
            refine wpS1 5 hG5 ?_; intro hG6; clear hG5
            refine wpS1 6 hG6 ?_; intro hG7; clear hG6
            refine wpS2 7 hG7 ?_; intro hG8; clear hG7
            refine wpS1 8 hG8 ?_; intro hG9; clear hG8
            refine wpS2 9 hG9 ?_; intro hG10; clear hG9
            refine wpS1 10 hG10 ?_; intro hG11; clear hG10
            refine wpS1 11 hG11 ?_; intro hG12; clear hG11
            refine wpS2 12 hG12 ?_; intro hG13; clear hG12
            refine wpS1 13 hG13 ?_; intro hG14; clear hG13
            refine wpS1 14 hG14 ?_; intro hG15; clear hG14
            refine wpS2 15 hG15 ?_; intro hG16; clear hG15
            refine wpS1 16 hG16 ?_; intro hG17; clear hG16
            refine wpS2 17 hG17 ?_; intro hG18; clear hG17
            refine wpS1 18 hG18 ?_; intro hG19; clear hG18
            refine wpS1 19 hG19 ?_; intro hG20; clear hG19
            refine wpS2 20 hG20 ?_; intro hG21; clear hG20
            refine wpS1 21 hG21 ?_; intro hG22; clear hG21
            refine wpS1 22 hG22 ?_; intro hG23; clear hG22
            refine wpS2 23 hG23 ?_; intro hG24; clear hG23
            refine wpAnyG_ready (rs := [24]) (by kernel_rfl) (by simp) (AllG.cons rfl hG24 (fun K hK => ?_) AllG.nil)
            (go_simp; go_at_call 106; refine (K5.out _).mono ?_; rintro e w5 ⟨rfl, hb5⟩; have hb45 : Below w4.heap.size w4 w5 := (Below.refl _ _).drew.trans hb5; clear hb5)
            refine hK.out _ _ (Or.inl rfl) (fun hG25 => wpN ?_); clear hK hG24
            refine wpS1 25 hG25 ?_; intro hG26; clear hG25
            refine wpS1 26 hG26 ?_; intro hG27; clear hG26
            refine wpS1 27 hG27 ?_; intro hG28; clear hG27
            refine wpS1 28 hG28 ?_; intro hG29; clear hG28
            refine wpS1 29 hG29 ?_; intro hG30; clear hG29
            refine wpAnyG_done (by kernel_rfl) ?_ _; clear hG30
            have hb25 := hbel.trans (hb45.mono z4)
            have z5 := hb25.size
            clear d0 d1 d2 d3 d4 d5 d6 d7 d8 d9 t0 t3
            have HT5 := HT4.out.up hb45
            have t2 := HT5.c2
            have t3 := HT5.lt
            have d8 := (hb45.cell (p := ⟨bb, ob + i, none⟩) hbb).trans HD8.out
            have d9 := (hb45.cell (p := ⟨bb, ob + r, none⟩) hbb).trans HD9.out
            have hbb5 : bb < w5.heap.size := by have := hb45.size; omega
            have e5 : decide ((T.B i : Int) < (T.B r : Int)) = true := decide_eq_true (by have := HB'.out; omega)
            go_wp2_with fail
            go_quiet (fail)
            go_wp2
            go_roundw
            case rel => exact ⟨i + 1, i, by omega, by go_num, rfl, HN, below_dN hb25 _⟩
            case measure => simp [intOf]; omega
           ·have HN := Lib.hid (best_keep hL hR hp hq.1 hq.2 (.inr ⟨heq, hB'⟩))
            have HB' := Lib.hid hB'
            clear hq hp hL hR ha hb' hB' heq
            have K5 := Lib.hid (fun wx => ((ratio_any (T.b i) (T.a i k) (T.b r) (T.a r k) wx P1.out P2.out P3.out P4.out P5.out P6.out).mono fun e w' ⟨h, hb⟩ => ⟨by
             rcases h with ⟨h, _⟩ | ⟨_, _, h⟩
             ·exact absurd hQ.out h
             ·rw [h, hz.out], hb⟩ : Calls Tryz.prog 106 #[.agg #[.int .i64 (T.b i).num, .int .i64 (T.b i).den], .agg #[.int .i64 (T.a i k).num, .int .i64 (T.a i k).den], .agg #[.int .i64 (T.b r).num, .int .i64 (T.b r).den], .agg #[.int .i64 (T.a r k).num, .int .i64 (T.a r k).den]] wx fun e w' => e = .returned (.tuple #[.int .i64 (0), .bool true]) ∧ Below wx.heap.size wx w'))
            go_wp2_with fail
            refine wp_region_G 24 (fun w' => ∀ b o, w'.cell? ⟨b, o, none⟩ = if b < w4.heap.size then w4.cell? ⟨b, o, none⟩ else hidC w' b o) (by kernel_rfl) (cif (B := w4.heap.size) (W := w4) (Below.refl _ _).drew) ?_
            intro hG0
            refine wpS1 0 hG0 ?_; intro hG1; clear hG0
            refine wpS1 1 hG1 ?_; intro hG2; clear hG1
            refine wpS1 2 hG2 ?_; intro hG3; clear hG2
            refine wpS2 3 hG3 ?_; intro hG4; clear hG3
            refine wpS1 4 hG4 ?_; intro hG5; clear hG4
            refine wpS1 5 hG5 ?_; intro hG6; clear hG5
            refine wpS1 6 hG6 ?_; intro hG7; clear hG6
            refine wpS2 7 hG7 ?_; intro hG8; clear hG7
            refine wpS1 8 hG8 ?_; intro hG9; clear hG8
            refine wpS2 9 hG9 ?_; intro hG10; clear hG9
            refine wpS1 10 hG10 ?_; intro hG11; clear hG10
            refine wpS1 11 hG11 ?_; intro hG12; clear hG11
            refine wpS2 12 hG12 ?_; intro hG13; clear hG12
            refine wpS1 13 hG13 ?_; intro hG14; clear hG13
            refine wpS1 14 hG14 ?_; intro hG15; clear hG14
            refine wpS2 15 hG15 ?_; intro hG16; clear hG15
            refine wpS1 16 hG16 ?_; intro hG17; clear hG16
            refine wpS2 17 hG17 ?_; intro hG18; clear hG17
            refine wpS1 18 hG18 ?_; intro hG19; clear hG18
            refine wpS1 19 hG19 ?_; intro hG20; clear hG19
            refine wpS2 20 hG20 ?_; intro hG21; clear hG20
            refine wpS1 21 hG21 ?_; intro hG22; clear hG21
            refine wpS1 22 hG22 ?_; intro hG23; clear hG22
            refine wpS2 23 hG23 ?_; intro hG24; clear hG23
            refine wpAnyG_ready (rs := [24]) (by kernel_rfl) (by simp) (AllG.cons rfl hG24 (fun K hK => ?_) AllG.nil)
            (go_simp; go_at_call 106; refine (K5.out _).mono ?_; rintro e w5 ⟨rfl, hb5⟩; have hb45 : Below w4.heap.size w4 w5 := (Below.refl _ _).drew.trans hb5; clear hb5)
            refine hK.out _ _ (Or.inl rfl) (fun hG25 => wpN ?_); clear hK hG24
            refine wpS1 25 hG25 ?_; intro hG26; clear hG25
            refine wpS1 26 hG26 ?_; intro hG27; clear hG26
            refine wpS1 27 hG27 ?_; intro hG28; clear hG27
            refine wpS1 28 hG28 ?_; intro hG29; clear hG28
            refine wpS1 29 hG29 ?_; intro hG30; clear hG29
            refine wpAnyG_done (by kernel_rfl) ?_ _; clear hG30
            have hb25 := hbel.trans (hb45.mono z4)
            have z5 := hb25.size
            clear d0 d1 d2 d3 d4 d5 d6 d7 d8 d9 t0 t3
            have HT5 := HT4.out.up hb45
            have t2 := HT5.c2
            have t3 := HT5.lt
            have d8 := (hb45.cell (p := ⟨bb, ob + i, none⟩) hbb).trans HD8.out
            have d9 := (hb45.cell (p := ⟨bb, ob + r, none⟩) hbb).trans HD9.out
            have hbb5 : bb < w5.heap.size := by have := hb45.size; omega
            have e5 : decide ((T.B i : Int) < (T.B r : Int)) = false := decide_eq_false (by have := HB'.out; omega)
            go_wp2_with fail
            go_quiet (fail)
            go_wp2
            go_roundw
            case rel => exact ⟨i + 1, r, by omega, by go_num, rfl, HN, below_dN hb25 _⟩
            case measure => simp [intOf]; omega
      ·have e1 : decide ((T.a i k).num ≤ 0) = true := decide_eq_true (by have : ¬ 0 < (T.a i k).num := fun h => hp (rep_pos.1 h); omega)
       have HN := Lib.hid (best_skip hB.out hp)
       clear hp hci hrow hSi
       go_wp2
       go_roundw
       case rel => exact ⟨i + 1, rr, by omega, by go_num, rfl, HN, hbel⟩
       case measure => simp [intOf]; omega
     ·obtain rfl : i = m := by omega
      have t0 := HT4.out.c0
      have t1 := HT4.out.c1
      have t2 := HT4.out.c2
      have t3 := HT4.out.lt
      rcases hB.out with ⟨rfl, hno⟩ | ⟨r, rfl, hL, hR⟩
      ·have HLs := Lib.hid (show Last i N T (.err 3) from .none HEnt.out hno)
       have HR4 := Lib.hid (HRB.out.up hbel)
       have r0 := HR4.out.fz 0
       have r1 := HR4.out.fz 1
       have r2 := HR4.out.fz 2
       have r3 := HR4.out.lt
       have r4 := HR4.out.c0
       have r5 := HR4.out.c1
       have r6 := HR4.out.c2
       clear hno
       go_wp2
       refine bodyPost_ret (v := .tuple #[.agg #[.slice (A0) i c0, .slice (some ⟨b1, o1, none⟩) N1 c1, .slice (A2) i c2], .bool false, .int .i64 3]) (by simp [results, Tryz.results83, go_sem, ↓IntWalk.iteOmega, *]) rfl ?_
       have hbF := put3_below (u0 := .slice (A0) i c0) (u1 := .slice (some ⟨b1, o1, none⟩) N1 c1) (u2 := .slice (A2) i c2) HBF.out HRw.out
       exact ⟨⟨_, _, _, rfl, .inr (.inr ⟨rfl, by decide, tabR_of HN1.out (HAT.out.up hbF), HLs.out⟩)⟩, hbF⟩
      ·obtain ⟨b0, o0, ea, hb0, hrow⟩ := HA4.out.row_at hL.1
       subst ea
       obtain ⟨Sr, cr', d3, hSr⟩ := hrow r hL.1
       obtain ⟨br, or', rfl, hbr, hcr⟩ := frq_cells hSr (by omega)
       obtain ⟨d4, d5⟩ := hcr k (by omega)
       rw [rowF_lt hlt] at d4 d5
       have r0 : (0 : Int) ≤ (r : Int) := by omega
       have r1 : (r : Int) < (i : Int) := by have := hL.1; omega
       have HL := Lib.hid hL
       have HR := Lib.hid hR
       have kO := fun wx (h : Below w4.heap.size w4 wx) => over_any (rowF T N r) (T.a r k) N1 (some ⟨br, or', none⟩) cr' wx (factsAt_up hSr h) (fun j hj => rowF_rep HS.out hL.1 j (by have := HN1.out; omega)) (HS.out.a r hL.1 k hlt) (by have := hL.2.1; grind) (by omega)
       clear hcr hrow hSr hR
       by_cases ho : ∀ j, j < N1 → Rep (rowF T N r j / T.a r k)
       case neg =>
        have K5 := Lib.hid (fun wx (h : Below w4.heap.size w4 wx) => ((kO wx h).mono fun e w' ⟨h, hb⟩ => ⟨by
         rcases h with ⟨_, h⟩ | ⟨h, _⟩
         ·exact h
         ·exact absurd h ho, hb⟩ : Calls Tryz.prog 107 #[.slice (some ⟨br, or', none⟩) N1 cr', .agg #[.int .i64 (T.a r k).num, .int .i64 (T.a r k).den]] wx fun e w' => e = .returned (.tuple #[.slice none 0 0, .bool false]) ∧ Below wx.heap.size wx w'))
        have HLs := Lib.hid (show Last i N T (.err 5) from .large HEnt.out HR.out HL.out fun h => ho fun j hj => pivok_row h j (by have := HN1.out; omega))
        clear ho hL kO
        go_wp2_with fail
        refine wp_region_G 13 (fun w' => ∀ b o, w'.cell? ⟨b, o, none⟩ = if b < w4.heap.size then w4.cell? ⟨b, o, none⟩ else hidC w' b o) (by kernel_rfl) (cif (B := w4.heap.size) (W := w4) (Below.refl _ _).drew) ?_
        intro hG0
        refine wpS1 0 hG0 ?_; intro hG1; clear hG0
        refine wpS2 1 hG1 ?_; intro hG2; clear hG1
        refine wpS1 2 hG2 ?_; intro hG3; clear hG2
        refine wpS1 3 hG3 ?_; intro hG4; clear hG3
        refine wpS2 4 hG4 ?_; intro hG5; clear hG4
        refine wpS1 5 hG5 ?_; intro hG6; clear hG5
        refine wpS2 6 hG6 ?_; intro hG7; clear hG6
        refine wpS1 7 hG7 ?_; intro hG8; clear hG7
        refine wpS1 8 hG8 ?_; intro hG9; clear hG8
        refine wpS2 9 hG9 ?_; intro hG10; clear hG9
        refine wpS1 10 hG10 ?_; intro hG11; clear hG10
        refine wpS1 11 hG11 ?_; intro hG12; clear hG11
        refine wpS2 12 hG12 ?_; intro hG13; clear hG12
        refine wpAnyG_ready (rs := [13]) (by kernel_rfl) (by simp) (AllG.cons rfl hG13 (fun K hK => ?_) AllG.nil)
        (go_simp; go_at_call 107; refine (K5.out _ (Below.refl _ _).drew).mono ?_; rintro e w5 ⟨rfl, hb5⟩; have hb45 : Below w4.heap.size w4 w5 := (Below.refl _ _).drew.trans hb5; clear hb5)
        refine hK.out _ _ (Or.inl rfl) (fun hG14 => wpN ?_); clear hK hG13
        refine wpS1 14 hG14 ?_; intro hG15; clear hG14
        refine wpS1 15 hG15 ?_; intro hG16; clear hG15
        refine wpS1 16 hG16 ?_; intro hG17; clear hG16
        refine wpS1 17 hG17 ?_; intro hG18; clear hG17
        refine wpS1 18 hG18 ?_; intro hG19; clear hG18
        refine wpAnyG_done (by kernel_rfl) ?_ _; clear hG19
        have hb25 := hbel.trans (hb45.mono z4)
        have z5 := hb25.size
        clear d3 d4 d5 t0 t1 t2 t3
        have HTx := Lib.hid (HTB.out.up hb25)
        have u0 := HTx.out.c0
        have u1 := HTx.out.c1
        have u2 := HTx.out.c2
        have u3 := HTx.out.lt
        have HRx := Lib.hid (HRB.out.up hb25)
        have x0 := HRx.out.fz 0
        have x1 := HRx.out.fz 1
        have x2 := HRx.out.fz 2
        have x3 := HRx.out.lt
        have x4 := HRx.out.c0
        have x5 := HRx.out.c1
        have x6 := HRx.out.c2
        have HBF := Lib.hid (HB2.out.trans (hb25.mono z2))
        go_wp2
        refine bodyPost_ret (v := .tuple #[.agg #[.slice (some ⟨b0, o0, none⟩) i c0, .slice (some ⟨b1, o1, none⟩) N1 c1, .slice (A2) i c2], .bool false, .int .i64 5]) (by simp [results, Tryz.results83, go_sem, ↓IntWalk.iteOmega, *]) rfl ?_
        have hbF := put3_below (u0 := .slice (some ⟨b0, o0, none⟩) i c0) (u1 := .slice (some ⟨b1, o1, none⟩) N1 c1) (u2 := .slice (A2) i c2) HBF.out HRw.out
        exact ⟨⟨_, _, _, rfl, .inr (.inr ⟨rfl, by decide, tabR_of HN1.out (HAT.out.up hbF), HLs.out⟩)⟩, hbF⟩
       case pos =>
        have hpos : 0 < i := by have := hL.1; omega
        have HO := Lib.hid ho
        have K5 := Lib.hid (fun wx (h : Below w4.heap.size w4 wx) => ((kO wx h).mono fun e w' ⟨h, hb⟩ => ⟨by
         rcases h with ⟨⟨j, hj, h⟩, _⟩ | ⟨_, h⟩
         ·exact absurd (ho j hj) h
         ·exact h, hb⟩ : Calls Tryz.prog 107 #[.slice (some ⟨br, or', none⟩) N1 cr', .agg #[.int .i64 (T.a r k).num, .int .i64 (T.a r k).den]] wx fun e w' => (∃ q, e = .returned (.tuple #[.slice (some ⟨q, 0, none⟩) N1 N1, .bool true]) ∧ FrRow w' q N1 (pvF T N r k)) ∧ Below wx.heap.size wx w'))
        clear ho hL kO
        go_wp2_with fail
        refine wp_region_G 13 (fun w' => ∀ b o, w'.cell? ⟨b, o, none⟩ = if b < w4.heap.size then w4.cell? ⟨b, o, none⟩ else hidC w' b o) (by kernel_rfl) (cif (B := w4.heap.size) (W := w4) (Below.refl _ _).drew) ?_
        intro hG0
        refine wpS1 0 hG0 ?_; intro hG1; clear hG0
        refine wpS2 1 hG1 ?_; intro hG2; clear hG1
        refine wpS1 2 hG2 ?_; intro hG3; clear hG2
        refine wpS1 3 hG3 ?_; intro hG4; clear hG3
        refine wpS2 4 hG4 ?_; intro hG5; clear hG4
        refine wpS1 5 hG5 ?_; intro hG6; clear hG5
        refine wpS2 6 hG6 ?_; intro hG7; clear hG6
        refine wpS1 7 hG7 ?_; intro hG8; clear hG7
        refine wpS1 8 hG8 ?_; intro hG9; clear hG8
        refine wpS2 9 hG9 ?_; intro hG10; clear hG9
        refine wpS1 10 hG10 ?_; intro hG11; clear hG10
        refine wpS1 11 hG11 ?_; intro hG12; clear hG11
        refine wpS2 12 hG12 ?_; intro hG13; clear hG12
        refine wpAnyG_ready (rs := [13]) (by kernel_rfl) (by simp) (AllG.cons rfl hG13 (fun K hK => ?_) AllG.nil)
        (go_simp; go_at_call 107; refine (K5.out _ (Below.refl _ _).drew).mono ?_; rintro e w5 ⟨⟨p, rfl, hp5⟩, hb5⟩; have hb45 : Below w4.heap.size w4 w5 := (Below.refl _ _).drew.trans hb5; clear hb5)
        refine hK.out _ _ (Or.inl rfl) (fun hG14 => wpN ?_); clear hK hG13
        refine wpS1 14 hG14 ?_; intro hG15; clear hG14
        refine wpS1 15 hG15 ?_; intro hG16; clear hG15
        refine wpS1 16 hG16 ?_; intro hG17; clear hG16
        refine wpS1 17 hG17 ?_; intro hG18; clear hG17
        refine wpS1 18 hG18 ?_; intro hG19; clear hG18
        refine wpAnyG_done (by kernel_rfl) ?_ _; clear hG19
        have hb25 := hbel.trans (hb45.mono z4)
        have z5 := hb25.size
        clear d3 d4 d5 t0 t1 t2 t3
        have HA5 := Lib.hid (HA2.out _ hb25)
        have HSB := Lib.hid (fun wx (h : Below w5.heap.size w5 wx) => ints_srcAt (intsAt_up HA5.out.bas h) HA5.out.nil)
        have HP5 := Lib.hid hp5
        have HTx := Lib.hid (HTB.out.up hb25)
        have u0 := HTx.out.c0
        have u1 := HTx.out.c1
        have u2 := HTx.out.c2
        have u3 := HTx.out.lt
        have HBl := Lib.hid (basL_len T.B i)
        have HBm := Lib.hid (show (basL T.B i).map (Value.int .i64) = (List.range i).map (fun j => Value.int .i64 (T.B j : Int)) by unfold basL; rw [List.map_map]; rfl)
        clear hp5
        go_wp2_with (at_builtin; refine wpList_append_src rfl _ _ 22 rfl w5.heap.size 3 ini (.int .i64 0) 1 8 undIc hii kz0 kz1 kz2 rfl (by decide) (.slice (some ⟨w5.heap.size, 0, none⟩) 0 0) 0 [] rfl (own_built (B := w5.heap.size) (e := 3) (s := 1) w5 #[] 0 (Nat.le_refl _) (by simp [maxLen]) rfl) A2 i c2 ((basL T.B i).map (Value.int .i64)) rfl (by have := HSB.out _ ((Below.refl w5.heap.size w5).alloc (Nat.le_refl _) (.cells #[] 3)); rw [HBl.out] at this; exact this) (by unfold maxLen; omega) (by omega) (by simp) ?_; intro v6 w6 ho6 hg6 _; simp only [Nat.zero_add, List.nil_append] at ho6; have hb56 : Below w5.heap.size w5 w6 := Below.grown (show Below w5.heap.size w5 (w5.alloc (.cells #[] 3)) from (Below.refl _ _).alloc (Nat.le_refl _) _) hg6 (by simp) (fun g h => by cases h; exact Nat.le_refl _); obtain ⟨Ag, cg, rfl, hAg⟩ := rowGe_own ho6 (fun j => .int .i64 (T.B j : Int)) (fun j hj => by rw [HBm.out]; simp [hj]); obtain ⟨gb, rfl, hgb5, hgb⟩ := hAg hpos; have HGB := Lib.hid hgb; have y1 := hgb.cell (i := r) (by omega); have y2 := hgb.frozen r; have y3 := hgb.lt; have HZB := Lib.hid hb56; have HTx6 := HTx.out.up hb56; have v0' := HTx6.c0; have v3' := HTx6.lt; have v5' : TX ≠ gb := (by have := HTx.out.lt; omega); have v6' : gb ≠ TX := Ne.symm v5'; clear ho6 hg6 hgb hb56 HTx6 hAg u0 u1 u2 u3)
        clear y1 y2 v0' v3' v5' v6'
        have z56 := HZB.out.size
        have h7s : (w6.setCell ⟨gb, r, none⟩ (.int .i64 k)).heap.size = w6.heap.size := by simp [World.setCell]
        have h7b : Below w5.heap.size w5 ((w6.setCell ⟨gb, r, none⟩ (.int .i64 k)).alloc (.cells #[.slice none 0 0, .slice none 0 0, .slice (some ⟨gb, 0, none⟩) i cg] 152)) := (HZB.out.setCell (p := ⟨gb, r, none⟩) hgb5 _).alloc (by rw [h7s]; exact z56) _
        have h7c : rowGe ((w6.setCell ⟨gb, r, none⟩ (.int .i64 k)).alloc (.cells #[.slice none 0 0, .slice none 0 0, .slice (some ⟨gb, 0, none⟩) i cg] 152)) gb 3 i (fun j => .int .i64 ((piv T r k).B j : Int)) := (rowGe.alloc (rowGe.set HGB.out r _) _).congr fun j hj => by
         show (if j = r then _ else _) = Value.int .i64 ((if j = r then k else T.B j : Nat) : Int)
         split <;> rfl
        have h7d := Tx.new (w6.setCell ⟨gb, r, none⟩ (.int .i64 k)) (.slice none 0 0) (.slice none 0 0) (.slice (some ⟨gb, 0, none⟩) i cg)
        rw [h7s] at h7d
        obtain ⟨w7, hw7⟩ : ∃ w7, w7 = (w6.setCell ⟨gb, r, none⟩ (.int .i64 k)).alloc (.cells #[.slice none 0 0, .slice none 0 0, .slice (some ⟨gb, 0, none⟩) i cg] 152) := ⟨_, rfl⟩
        obtain ⟨OB, hOB⟩ : ∃ OB, OB = w6.heap.size := ⟨_, rfl⟩
        rw [← hw7] at h7b h7c h7d ⊢
        rw [← hOB] at h7d ⊢
        have hO5 : w5.heap.size ≤ OB := by omega
        have hgO : gb ≠ OB := by omega
        have h27 := hb25.trans (h7b.mono z5)
        have z7 := h27.size
        have z57 := h7b.size
        have H7c := Lib.hid h7c
        have HP7 := Lib.hid (show FrRow w7 p N1 (pvF T N r k) from HP5.out.up h7b)
        have H27 := Lib.hid h27
        have hO7 := h7d.lt
        have hpO : p ≠ OB := by have := FrRow.lt HP5.out; omega
        clear hw7 hOB h7s h7c HGB HZB z56 y3 hgb5 h27 h7b
        go_loopw [13, 145] (fun ok jv wr => ∃ (j : Nat) (v0 : Value) (rb cp : Nat → Nat), j ≤ i ∧ jv = .int .i64 j ∧ ok = .bool true ∧ Tx wr OB v0 (.slice none 0 0) (.slice (some ⟨gb, 0, none⟩) i cg) ∧ Hid (RwrAt wr w7.heap.size j N1 (rowF (piv T r k) N) v0 rb cp) ∧ Hid (∀ t, t < j → t ≠ r → ElOK N1 (rowF T N t) (pvF T N r k) (T.a t k)) ∧ Kw OB (OB + 1) w7 wr) (fun _ jv _ => i - (intOf jv).toNat)
        case atStart => exact ⟨0, _, id, id, by omega, rfl, rfl, h7d, Lib.hid RwrAt.nil, Lib.hid (fun t ht => absurd ht (by omega)), Kw.refl _ _ _⟩
        case round =>
         clear h7d
         obtain ⟨j, v0, rb, cp, hj, rfl, rfl, hbox, hrw, hel, hkw⟩ := hrel
         obtain ⟨wt, hwt⟩ : ∃ wt : World, wt = wr := ⟨_, rfl⟩
         rw [← hwt] at hbox hrw hkw ⊢
         clear hwt
         have z7t := hkw.size
         have hb2t : Below w2.heap.size w2 wt := H27.out.trans (hkw.below (by omega) (by omega))
         have zt := hb2t.size
         obtain ⟨A6, c6, rfl⟩ := own_shape hrw.out.own
         have HFP := Lib.hid (show FrRow wt p N1 (pvF T N r k) from hkw.row HP7.out (by omega))
         have HTO := Lib.hid hbox
         have HTx := Lib.hid (HTB.out.up hb2t)
         have u0 := HTx.out.c0
         have u1 := HTx.out.c1
         have u2 := HTx.out.c2
         have u3 := HTx.out.lt
         have HAt := Lib.hid (HA2.out _ hb2t)
         by_cases hltj : j < i
         ·obtain ⟨b0', o0', ea, hb0', hrow⟩ := HAt.out.row_at hltj
          injection ea with ea
          injection ea with ea1 ea2
          subst ea1
          subst ea2
          obtain ⟨Sj, cj, d0, hSj⟩ := hrow j hltj
          have j0 : (0 : Int) ≤ (j : Int) := by omega
          have j1 : (j : Int) < (i : Int) := by omega
          by_cases e : j = r
          ·subst e
           have e1 : ((j : Int) != (j : Int)) = false := by simp
           have HRW := hrw
           have HKW := Lib.hid hkw
           have HEl' := Lib.hid (show ∀ t, t < j + 1 → t ≠ j → ElOK N1 (rowF T N t) (pvF T N j k) (T.a t k) from fun t ht hn => hel.out t (by omega) hn)
           have HFP' := HFP
           rw [← rowF_piv_r] at HFP
           have y0 := HTO.out.c0
           have yf := HTO.out.fz 0
           have yl := HTO.out.lt
           clear hbox hrw hel hkw hrow hSj
           go_wp2_with (at_builtin; refine wpList_push rfl _ _ 149 rfl w7.heap.size 150 inr (.slice none 0 0) 1 24 undRws hir jz0 jz1 jz2 rfl (by decide) (by decide) (.slice A6 j c6) j ((List.range j).map fun t => .slice (some ⟨rb t, 0, none⟩) N1 (cp t)) rfl (HRW.out.own.alloc _) wt.heap.size 150 [.slice (some ⟨p, 0, none⟩) N1 N1] rfl rfl (heap_alloc_new _ _) (one_one rfl) (by omega) (by have := HKW.out.size; first | omega | (simp; omega)) (B := OB) (W := w7) ((HKW.out.below (Nat.le_refl _) (by omega)).alloc (by have := HKW.out.size; omega) _) (by omega) ?_; intro va wa hoa hga hata hba; have hal := (Below.refl wt.heap.size wt).alloc (Nat.le_refl _) (.cells #[.slice (some ⟨p, 0, none⟩) N1 N1] 150); have Ra := Lib.hid (RwrAt.push (cp := cp) (c := N1) (HRW.out.up hal) (FrRow.up HFP.out hal) hoa hga); have Ta := Lib.hid (Tx.grown (HTO.out.up hal) (own_below HRW.out.own hal) hga (by decide)); have Ka := Lib.hid (Kw.grown (HKW.out.up hal) (own_below HRW.out.own hal) hga (Nat.le_refl _)); obtain ⟨Aa, ca, rfl⟩ := own_shape hoa; clear hoa hga hata hal hba; have ya0 := Ta.out.c0; have yfa := Ta.out.fz 0; have yla := Ta.out.lt; clear y0 yf yl)
           go_roundw
           case rel => exact ⟨j + 1, _, upn rb j p, upn cp j N1, by omega, by go_num, rfl, Ta.out.set0 _, Lib.hid (Ra.out.put Ta.out 0 _), HEl', Ka.out.set (p := ⟨OB, 0, none⟩) (Nat.le_refl _) (Nat.lt_succ_self _) _⟩
           case measure => simp [intOf]; omega
          ·obtain ⟨bj, oj, rfl, hbj, hcj⟩ := frq_cells hSj (by omega)
           obtain ⟨d1, d2⟩ := hcj k (by omega)
           rw [rowF_lt hlt] at d1 d2
           have e1 : ((j : Int) != (r : Int)) = true := by simp; omega
           have kM := fun wx (h : Below wt.heap.size wt wx) => minus_any (rowF T N j) (pvF T N r k) (T.a j k) N1 (some ⟨bj, oj, none⟩) (some ⟨p, 0, none⟩) cj N1 wx (factsAt_up hSj h) (fr_facts (FrRow.up HFP.out h) (by omega)) (fun t ht => rowF_rep HS.out hltj t (by have := HN1.out; omega)) HO.out (HS.out.a j hltj k hlt) (by omega)
           by_cases hE : ElOK N1 (rowF T N j) (pvF T N r k) (T.a j k)
           case neg =>
            have K6 := Lib.hid (fun wx (h : Below wt.heap.size wt wx) => ((kM wx h).mono fun e w' ⟨h, hb⟩ => ⟨by
             rcases h with ⟨_, h⟩ | ⟨h, _⟩
             ·exact h
             ·exact absurd h hE, hb⟩ : Calls Tryz.prog 108 #[.slice (some ⟨bj, oj, none⟩) N1 cj, .agg #[.int .i64 (T.a j k).num, .int .i64 (T.a j k).den], .slice (some ⟨p, 0, none⟩) N1 N1] wx fun e w' => e = .returned (.tuple #[.slice none 0 0, .bool false]) ∧ Below wx.heap.size wx w'))
            have HLs := Lib.hid (show Last i N T (.err 5) from .large HEnt.out HR.out HL.out fun h => hE (by have := pivok_el h hltj e; rw [← HN1.out] at this; exact this))
            clear hE kM hcj hrow hSj hbox hrw hel hkw
            go_wp2_with fail
            refine (K6.out _ (Below.refl _ _)).mono ?_
            rintro e w8 ⟨rfl, hb8⟩
            have hb28 := hb2t.trans (hb8.mono zt)
            clear u0 u1 u2 u3 HTx d0 d1 d2
            have HTx := Lib.hid (HTB.out.up hb28)
            have u0 := HTx.out.c0
            have u1 := HTx.out.c1
            have u2 := HTx.out.c2
            have u3 := HTx.out.lt
            have HRx := Lib.hid (HRB.out.up hb28)
            have x0 := HRx.out.fz 0
            have x1 := HRx.out.fz 1
            have x2 := HRx.out.fz 2
            have x3 := HRx.out.lt
            have x4 := HRx.out.c0
            have x5 := HRx.out.c1
            have x6 := HRx.out.c2
            have HBF := Lib.hid (HB2.out.trans (hb28.mono z2))
            go_wp2
            refine bodyPost_ret (v := .tuple #[.agg #[.slice (some ⟨b0, o0, none⟩) i c0, .slice (some ⟨b1, o1, none⟩) N1 c1, .slice (A2) i c2], .bool false, .int .i64 5]) (by simp [results, Tryz.results83, go_sem, ↓IntWalk.iteOmega, *]) rfl ?_
            have hbF := put3_below (u0 := .slice (some ⟨b0, o0, none⟩) i c0) (u1 := .slice (some ⟨b1, o1, none⟩) N1 c1) (u2 := .slice (A2) i c2) HBF.out HRw.out
            exact ⟨⟨_, _, _, rfl, .inr (.inr ⟨rfl, by decide, tabR_of HN1.out (HAT.out.up hbF), HLs.out⟩)⟩, hbF⟩
           case pos =>
            have K6 := Lib.hid (fun wx (h : Below wt.heap.size wt wx) => ((kM wx h).mono fun e' w' ⟨h, hb⟩ => ⟨by
             rcases h with ⟨h, _⟩ | ⟨_, h⟩
             ·exact absurd hE h
             ·rw [rowF_piv e]; exact h, hb⟩ : Calls Tryz.prog 108 #[.slice (some ⟨bj, oj, none⟩) N1 cj, .agg #[.int .i64 (T.a j k).num, .int .i64 (T.a j k).den], .slice (some ⟨p, 0, none⟩) N1 N1] wx fun e w' => (∃ q, e = .returned (.tuple #[.slice (some ⟨q, 0, none⟩) N1 N1, .bool true]) ∧ FrRow w' q N1 (rowF (piv T r k) N j)) ∧ Below wx.heap.size wx w'))
            have HEl' := Lib.hid (show ∀ t, t < j + 1 → t ≠ r → ElOK N1 (rowF T N t) (pvF T N r k) (T.a t k) from fun t ht hn => by
             by_cases e2 : t = j
             ·subst e2; exact hE
             ·exact hel.out t (by omega) hn)
            clear hE kM hcj hrow hSj hel
            go_wp2_with fail
            refine (K6.out _ (Below.refl _ _)).mono ?_
            rintro e w8 ⟨⟨q, rfl, hq8⟩, hb8⟩
            have HRW := Lib.hid (hrw.out.up hb8)
            have HKW := Lib.hid (hkw.up hb8)
            have HFP := Lib.hid hq8
            have HTO := Lib.hid (hbox.up hb8)
            have y0 := HTO.out.c0
            have yf := HTO.out.fz 0
            have yl := HTO.out.lt
            clear hbox hrw hkw hq8 hb8 u0 u1 u2 u3 HTx d0 d1 d2
            go_wp2_with (at_builtin; refine wpList_push rfl _ _ 149 rfl w7.heap.size 150 inr (.slice none 0 0) 1 24 undRws hir jz0 jz1 jz2 rfl (by decide) (by decide) (.slice A6 j c6) j ((List.range j).map fun t => .slice (some ⟨rb t, 0, none⟩) N1 (cp t)) rfl (HRW.out.own.alloc _) w8.heap.size 150 [.slice (some ⟨q, 0, none⟩) N1 N1] rfl rfl (heap_alloc_new _ _) (one_one rfl) (by omega) (by have := HKW.out.size; first | omega | (simp; omega)) (B := OB) (W := w7) ((HKW.out.below (Nat.le_refl _) (by omega)).alloc (by have := HKW.out.size; omega) _) (by omega) ?_; intro va wa hoa hga hata hba; have hal := (Below.refl w8.heap.size w8).alloc (Nat.le_refl _) (.cells #[.slice (some ⟨q, 0, none⟩) N1 N1] 150); have Ra := Lib.hid (RwrAt.push (cp := cp) (c := N1) (HRW.out.up hal) (FrRow.up HFP.out hal) hoa hga); have Ta := Lib.hid (Tx.grown (HTO.out.up hal) (own_below HRW.out.own hal) hga (by decide)); have Ka := Lib.hid (Kw.grown (HKW.out.up hal) (own_below HRW.out.own hal) hga (Nat.le_refl _)); obtain ⟨Aa, ca, rfl⟩ := own_shape hoa; clear hoa hga hata hal hba; have ya0 := Ta.out.c0; have yfa := Ta.out.fz 0; have yla := Ta.out.lt; clear y0 yf yl)
            go_roundw
            case rel => exact ⟨j + 1, _, upn rb j q, upn cp j N1, by omega, by go_num, rfl, Ta.out.set0 _, Lib.hid (Ra.out.put Ta.out 0 _), HEl', Ka.out.set (p := ⟨OB, 0, none⟩) (Nat.le_refl _) (Nat.lt_succ_self _) _⟩
            case measure => simp [intOf]; omega
         ·obtain rfl : i = j := by omega
          obtain ⟨b1', o1', ea, hb1', hc1'⟩ := frq_cells HAt.out.obj (by omega)
          injection ea with ea
          injection ea with ea1 ea2
          subst ea1
          subst ea2
          obtain ⟨d1, d2⟩ := hc1' k (by omega)
          rw [objF_lt hlt] at d1 d2
          have kM := fun wx (h : Below wt.heap.size wt wx) => minus_any (objF T N) (pvF T N r k) (T.c k) N1 (some ⟨b1, o1, none⟩) (some ⟨p, 0, none⟩) c1 N1 wx (factsAt_up HAt.out.obj h) (fr_facts (FrRow.up HFP.out h) (by omega)) (fun t ht => objF_rep HS.out t (by have := HN1.out; omega)) HO.out (HS.out.c k hlt) (by omega)
          have hO2 : w2.heap.size ≤ OB := by omega
          by_cases hE : ElOK N1 (objF T N) (pvF T N r k) (T.c k)
          case neg =>
           have K6 := Lib.hid (fun wx (h : Below wt.heap.size wt wx) => ((kM wx h).mono fun e w' ⟨h, hb⟩ => ⟨by
            rcases h with ⟨_, h⟩ | ⟨h, _⟩
            ·exact h
            ·exact absurd h hE, hb⟩ : Calls Tryz.prog 108 #[.slice (some ⟨b1, o1, none⟩) N1 c1, .agg #[.int .i64 (T.c k).num, .int .i64 (T.c k).den], .slice (some ⟨p, 0, none⟩) N1 N1] wx fun e w' => e = .returned (.tuple #[.slice none 0 0, .bool false]) ∧ Below wx.heap.size wx w'))
           have HLs := Lib.hid (show Last i N T (.err 5) from .large HEnt.out HR.out HL.out fun h => hE (by have := pivok_obj h; rw [← HN1.out] at this; exact this))
           clear hE kM hc1' hbox hrw hel hkw
           go_wp2_with fail
           refine wp_region_G 8 (fun w' => ∀ b o, w'.cell? ⟨b, o, none⟩ = if b < wt.heap.size then wt.cell? ⟨b, o, none⟩ else hidC w' b o) (by kernel_rfl) (cif (B := wt.heap.size) (W := wt) (Below.refl _ _).drew) ?_
           intro hG0
           refine wpS1 0 hG0 ?_; intro hG1; clear hG0
           refine wpS2 1 hG1 ?_; intro hG2; clear hG1
           refine wpS1 2 hG2 ?_; intro hG3; clear hG2
           refine wpS2 3 hG3 ?_; intro hG4; clear hG3
           refine wpS1 4 hG4 ?_; intro hG5; clear hG4
           refine wpS1 5 hG5 ?_; intro hG6; clear hG5
           refine wpS2 6 hG6 ?_; intro hG7; clear hG6
           refine wpS1 7 hG7 ?_; intro hG8; clear hG7
           refine wpAnyG_ready (rs := [8]) (by kernel_rfl) (by simp) (AllG.cons rfl hG8 (fun K hK => ?_) AllG.nil)
           (go_simp; go_at_call 108; refine (K6.out _ (Below.refl _ _).drew).mono ?_; rintro e w8 ⟨rfl, hb8⟩; have hbt8 : Below wt.heap.size wt w8 := (Below.refl _ _).drew.trans hb8; clear hb8; have HTO8 := Lib.hid (HTO.out.up hbt8); have y8 := HTO8.out.c1; have y8f := HTO8.out.fz 1; have y8l := HTO8.out.lt)
           refine hK.out _ _ (Or.inl rfl) (fun hG9 => wpN ?_); clear hK hG8
           refine wpS1 9 hG9 ?_; intro hG10; clear hG9
           refine wpS1 10 hG10 ?_; intro hG11; clear hG10
           refine wpS1 11 hG11 ?_; intro hG12; clear hG11
           refine wpS1 12 hG12 ?_; intro hG13; clear hG12
           refine wpAnyG_ready (rs := [13]) (by kernel_rfl) (by simp) (AllG.cons rfl hG13 (fun K hK => ?_) AllG.nil)
           (go_simp)
           refine hK.out _ _ (Or.inl rfl) (fun hG14 => wpN ?_); clear hK hG13
           refine wpS1 14 hG14 ?_; intro hG15; clear hG14
           refine wpAnyG_done (by kernel_rfl) ?_ _; clear hG15
           have hb29 := (hb2t.trans (hbt8.mono zt)).setCell (p := ⟨OB, 1, none⟩) hO2 (.slice none 0 0)
           obtain ⟨w9, hw9⟩ : ∃ w9, w9 = w8.setCell ⟨OB, 1, none⟩ (.slice none 0 0) := ⟨_, rfl⟩
           rw [← hw9] at hb29 ⊢
           clear u0 u1 u2 u3 HTx d1 d2 y8 y8f y8l hw9 hbt8
           have HTx := Lib.hid (HTB.out.up hb29)
           have u0 := HTx.out.c0
           have u1 := HTx.out.c1
           have u2 := HTx.out.c2
           have u3 := HTx.out.lt
           have HRx := Lib.hid (HRB.out.up hb29)
           have x0 := HRx.out.fz 0
           have x1 := HRx.out.fz 1
           have x2 := HRx.out.fz 2
           have x3 := HRx.out.lt
           have x4 := HRx.out.c0
           have x5 := HRx.out.c1
           have x6 := HRx.out.c2
           have HBF := Lib.hid (HB2.out.trans (hb29.mono z2))
           go_wp2
           refine bodyPost_ret (v := .tuple #[.agg #[.slice (some ⟨b0, o0, none⟩) i c0, .slice (some ⟨b1, o1, none⟩) N1 c1, .slice (A2) i c2], .bool false, .int .i64 5]) (by simp [results, Tryz.results83, go_sem, ↓IntWalk.iteOmega, *]) rfl ?_
           have hbF := put3_below (u0 := .slice (some ⟨b0, o0, none⟩) i c0) (u1 := .slice (some ⟨b1, o1, none⟩) N1 c1) (u2 := .slice (A2) i c2) HBF.out HRw.out
           exact ⟨⟨_, _, _, rfl, .inr (.inr ⟨rfl, by decide, tabR_of HN1.out (HAT.out.up hbF), HLs.out⟩)⟩, hbF⟩
          case pos =>
           have K6 := Lib.hid (fun wx (h : Below wt.heap.size wt wx) => ((kM wx h).mono fun e' w' ⟨h, hb⟩ => ⟨by
            rcases h with ⟨h, _⟩ | ⟨_, h⟩
            ·exact absurd hE h
            ·rw [objF_piv]; exact h, hb⟩ : Calls Tryz.prog 108 #[.slice (some ⟨b1, o1, none⟩) N1 c1, .agg #[.int .i64 (T.c k).num, .int .i64 (T.c k).den], .slice (some ⟨p, 0, none⟩) N1 N1] wx fun e w' => (∃ q, e = .returned (.tuple #[.slice (some ⟨q, 0, none⟩) N1 N1, .bool true]) ∧ FrRow w' q N1 (objF (piv T r k) N)) ∧ Below wx.heap.size wx w'))
           have HPK := Lib.hid (show PivOK i N T r k from pivok_mk (fun j hj => HO.out j (by have := HN1.out; omega)) (fun t ht hn => by have := hel.out t ht hn; rw [HN1.out] at this; exact this) (by have := hE; rw [HN1.out] at this; exact this))
           have HRW := hrw
           have HGT := Lib.hid (show rowGe wt gb 3 i (fun j => .int .i64 ((piv T r k).B j : Int)) from hkw.row H7c.out (by omega))
           clear hE kM hc1' hbox hrw hel hkw
           go_wp2_with fail
           refine wp_region_G 8 (fun w' => ∀ b o, w'.cell? ⟨b, o, none⟩ = if b < wt.heap.size then wt.cell? ⟨b, o, none⟩ else hidC w' b o) (by kernel_rfl) (cif (B := wt.heap.size) (W := wt) (Below.refl _ _).drew) ?_
           intro hG0
           refine wpS1 0 hG0 ?_; intro hG1; clear hG0
           refine wpS2 1 hG1 ?_; intro hG2; clear hG1
           refine wpS1 2 hG2 ?_; intro hG3; clear hG2
           refine wpS2 3 hG3 ?_; intro hG4; clear hG3
           refine wpS1 4 hG4 ?_; intro hG5; clear hG4
           refine wpS1 5 hG5 ?_; intro hG6; clear hG5
           refine wpS2 6 hG6 ?_; intro hG7; clear hG6
           refine wpS1 7 hG7 ?_; intro hG8; clear hG7
           refine wpAnyG_ready (rs := [8]) (by kernel_rfl) (by simp) (AllG.cons rfl hG8 (fun K hK => ?_) AllG.nil)
           (go_simp; go_at_call 108; refine (K6.out _ (Below.refl _ _).drew).mono ?_; rintro e w8 ⟨⟨q, rfl, hq8⟩, hb8⟩; have hbt8 : Below wt.heap.size wt w8 := (Below.refl _ _).drew.trans hb8; clear hb8; have HTO8 := Lib.hid (HTO.out.up hbt8); have y8 := HTO8.out.c1; have y8f := HTO8.out.fz 1; have y8l := HTO8.out.lt)
           refine hK.out _ _ (Or.inl rfl) (fun hG9 => wpN ?_); clear hK hG8
           refine wpS1 9 hG9 ?_; intro hG10; clear hG9
           refine wpS1 10 hG10 ?_; intro hG11; clear hG10
           refine wpS1 11 hG11 ?_; intro hG12; clear hG11
           refine wpS1 12 hG12 ?_; intro hG13; clear hG12
           refine wpAnyG_ready (rs := [13]) (by kernel_rfl) (by simp) (AllG.cons rfl hG13 (fun K hK => ?_) AllG.nil)
           (go_simp)
           refine hK.out _ _ (Or.inl rfl) (fun hG14 => wpN ?_); clear hK hG13
           refine wpS1 14 hG14 ?_; intro hG15; clear hG14
           refine wpAnyG_done (by kernel_rfl) ?_ _; clear hG15
           have hb29 := (hb2t.trans (hbt8.mono zt)).setCell (p := ⟨OB, 1, none⟩) hO2 (.slice (some ⟨q, 0, none⟩) N1 N1)
           have T9 := Lib.hid (HTO8.out.set1 (.slice (some ⟨q, 0, none⟩) N1 N1))
           have R9 := Lib.hid ((HRW.out.up hbt8).put HTO8.out 1 (.slice (some ⟨q, 0, none⟩) N1 N1))
           have F9 := Lib.hid (FrRow.of_block hq8 (Below.heap_setCell w8 ⟨OB, 1, none⟩ (.slice (some ⟨q, 0, none⟩) N1 N1) q (rows_apart hq8 HTO8.out (by decide))))
           have G9 := Lib.hid (rowGe.of_block (rowGe.up HGT.out hbt8) (Below.heap_setCell w8 ⟨OB, 1, none⟩ (.slice (some ⟨q, 0, none⟩) N1 N1) gb (rows_apart (rowGe.up HGT.out hbt8) HTO8.out (by decide))))
           obtain ⟨w9, hw9⟩ : ∃ w9, w9 = w8.setCell ⟨OB, 1, none⟩ (.slice (some ⟨q, 0, none⟩) N1 N1) := ⟨_, rfl⟩
           rw [← hw9] at hb29 T9 R9 F9 G9 ⊢
           clear u0 u1 u2 u3 HTx d1 d2 y8 y8f y8l hw9 hbt8 hq8 HTO8
           have u0 := T9.out.c0
           have u1 := T9.out.c1
           have u2 := T9.out.c2
           have u3 := T9.out.lt
           have HRx := Lib.hid (HRB.out.up hb29)
           have x0 := HRx.out.fz 0
           have x1 := HRx.out.fz 1
           have x2 := HRx.out.fz 2
           have x3 := HRx.out.lt
           have x4 := HRx.out.c0
           have x5 := HRx.out.c1
           have x6 := HRx.out.c2
           have HBF := Lib.hid (HB2.out.trans (hb29.mono z2))
           go_wp2
           refine bodyPost_ret (v := .tuple #[.agg #[.slice A6 i c6, .slice (some ⟨q, 0, none⟩) N1 N1, .slice (some ⟨gb, 0, none⟩) i cg], .bool true, .int .i64 0]) (by simp [results, Tryz.results83, go_sem, ↓IntWalk.iteOmega, *]) rfl ?_
           have hbF := put3_below (u0 := .slice A6 i c6) (u1 := .slice (some ⟨q, 0, none⟩) N1 N1) (u2 := .slice (some ⟨gb, 0, none⟩) i cg) HBF.out HRw.out
           obtain ⟨A0', c0', e0, hM⟩ := (put3_rwr (u0 := .slice A6 i c6) (u1 := .slice (some ⟨q, 0, none⟩) N1 N1) (u2 := .slice (some ⟨gb, 0, none⟩) i cg) HRx.out R9.out).tt
           injection e0 with e0 _ _
           subst e0
           exact ⟨⟨_, _, _, rfl, .inr (.inl ⟨rfl, rfl, k, r, HEnt.out, HR.out, HL.out, HPK.out, tabR_of HN1.out ⟨hM, ⟨_, rfl, put3_fr HRx.out F9.out⟩, (fun _ => ⟨_, rfl, put3_row HRx.out G9.out (by decide)⟩), fun e => nomatch e⟩⟩)⟩, hbF⟩
   ·have e1 : decide ((T.c k).num ≤ 0) = true := decide_eq_true (by have : ¬ 0 < (T.c k).num := fun h => hp (rep_pos.1 h); omega)
    have HN := Lib.hid (show ∀ j, j < k + 1 → ¬ 0 < T.c j from fun j hj => by
     by_cases e : j = k
     ·subst e; exact hp
     ·exact hno.out j (by omega))
    clear hp
    go_wp2
    go_roundw
    case rel => exact ⟨k + 1, by omega, by go_num, HN, hbel⟩
    case measure => simp [intOf]; omega
  ·obtain rfl : k = N := by omega
   have HLs := Lib.hid (show Last m k T (.ok T) from .done hno.out)
   have HR4 := Lib.hid (HRB.out.up hbel)
   have t2 := hTB.c2
   have r0 := HR4.out.fz 0
   have r1 := HR4.out.fz 1
   have r2 := HR4.out.fz 2
   have r3 := HR4.out.lt
   have r4 := HR4.out.c0
   have r5 := HR4.out.c1
   have r6 := HR4.out.c2
   clear hc1 hb1
   go_wp2
   refine bodyPost_ret (v := .tuple #[.agg #[.slice (A0) m c0, .slice (some ⟨b1, o1, none⟩) N1 c1, .slice (A2) m c2], .bool false, .int .i64 0]) (by simp [results, Tryz.results83, go_sem, ↓IntWalk.iteOmega, *]) rfl ?_
   have hbF := put3_below (u0 := .slice (A0) m c0) (u1 := .slice (some ⟨b1, o1, none⟩) N1 c1) (u2 := .slice (A2) m c2) HBF.out HRw.out
   exact ⟨⟨_, _, _, rfl, .inl ⟨rfl, rfl, tabR_of HN1.out (HAT.out.up hbF), HLs.out⟩⟩, hbF⟩

end Go.Proofs.YtaampjhdgeoicaaGreat
