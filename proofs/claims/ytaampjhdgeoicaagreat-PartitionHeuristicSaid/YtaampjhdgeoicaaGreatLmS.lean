/- The reference's Facts. -/
import Derived.Test.YtaampjhdgeoicaaGreatMfA
import Derived.Test.YtaampjhdgeoicaaGreatMvE
namespace Go.Proofs.YtaampjhdgeoicaaGreat
set_option linter.unusedSimpArgs false
set_option linter.unusedVariables false
open Go Go.RowKit
set_option linter.unusedVariables false

noncomputable def lmK (t : Tsk) (s : List Int) (k j : Nat) : List (Int × Int) := (alK t.vars k j).filter (lmB t s)
section
variable {t : Tsk} {s : List Int}
theorem lmK_yes {k j : Nat} (h : lmB t s ((k : Int), (j : Int)) = true) : lmK t s k (j + 1) = lmK t s k j ++ [((k : Int), (j : Int))] := by unfold lmK; rw [alK_succ, List.filter_append]; simp [h]
theorem lmK_no {k j : Nat} (h : lmB t s ((k : Int), (j : Int)) = false) : lmK t s k (j + 1) = lmK t s k j := by unfold lmK; rw [alK_succ, List.filter_append]; simp [h]
theorem lmK_end (k : Nat) : lmK t s k (nth t.vars k).toNat = lmK t s (k + 1) 0 := by unfold lmK; rw [alK_end, alK_zero]
theorem lmK_all : lmK t s t.vars.length 0 = lmks t s := by unfold lmK; rw [alK_zero]; rfl
theorem lmK_len {k j : Nat} (hr : Right t) (hk : k ≤ t.vars.length) (hj : j ≤ 64) : (lmK t s k j).length ≤ 10000 := by
 unfold lmK
 exact Nat.le_trans (List.length_filter_le _ _) (alK_len hr.dom hr.nv hk hj)
end
def RFacRet (t : Tsk) (s : List Int) (e : Ending) (w' : World) : Prop := ∃ v, e = .returned (.tuple #[v, .int .i64 (lmC t s)]) ∧ GotFs w' v (lmL t s)

set_option maxRecDepth 100000 in
set_option maxHeartbeats 8000000 in
theorem rfacts_any (t : Tsk) (p : Lies) (s : List Int) (AS : Option Addr) (cs : Nat) (w : World) (ht : TaskAt w w.heap.size t p) (hs : IntsAt w w.heap.size AS s) (hr : Right t) :
  Calls Tryz.prog 41 #[TaskV t p, .slice AS s.length cs] w fun e w' => RFacRet t s e w' ∧ Below w.heap.size w w' := by
 have k1 := fun wx (hb : Below w.heap.size w wx) => state_any t.vars s p.av AS p.cv cs wx (ht.vars.up hb) (hs.up hb)
 have k3 := fun (a1 a2 : Int) wx (hb : Below w.heap.size w wx) (hst : stB t.vars s = true) => rreach_any t p s AS cs a1 a2 wx (ht.up hb) (hs.up hb) hst hr
 have k4 := fun (A : Option Addr) (c g : Nat) (rb : Nat → Nat) (a : Int × Int) wx (hb : Below w.heap.size w wx) (hA : 0 < t.vars.length → A = some ⟨g, 0, none⟩) (hm : MatIs wx g t.vars.length rb (Ld t) (rcB t s a)) => rall_any t t.goal (rcB t s a) A p.ag c p.cg g rb wx hA hm (ht.goal.up hb) (rng_fa hr.goal)
 have hno : rcB t s (-1, 0) = rcB t s noF := rcB_none hr (show (-1 : Int) < 0 by decide) (show (-1 : Int) < 0 by decide)
 have HR := Lib.hid hr
 obtain ⟨av, ai, ag, ao, cv, ci, cg, co⟩ := p
 unfold TaskV at *
 dsimp only at *
 have n64 := hr.nv
 clear hr
 have K1 := Lib.hid k1
 have K3 := Lib.hid k3
 have K4 := Lib.hid k4
 clear k1 k3 k4
 obtain ⟨inf, hi, iz0, iz1, iz2⟩ := info_parts infoF8
 cases e1 : stB t.vars s
 ·have Hc : Hid (lmC t s = 2) := Lib.hid (by unfold lmC; rw [e1]; rfl)
  rw [e1] at K1
  clear K3 K4
  go_enter Tryz.func41, Tryz.ntmps41
  go_wp2_with fail; refine (K1.out _ (by exact bel)).mono ?_; rintro e w1 ⟨rfl, hb1⟩; obtain ⟨hc1, hf1, hz1, hlt1, hle1⟩ := cellsIf hb1 (by (try simp); exact rfl); (try have := s00 w w1); (try have := s01 w w1); (try have := s02 w w1); (try have := s10 w w1); (try have := s11 w w1); (try have := s12 w w1); (try have := s20 w w1); (try have := s21 w w1); (try have := s22 w w1)
  go_wp2
  refine bodyPost_ret (v := .tuple #[.slice none 0 0, .int .i64 2]) (by simp [results, Tryz.results41, go_sem]) rfl ⟨⟨.slice none 0 0, by rw [Hc.out], by unfold lmL; rw [Hc.out]; exact gotFs_nil _⟩, by exact bel⟩
 have Hst := Lib.hid e1
 rw [e1] at K1
 obtain ⟨B, hB⟩ : ∃ B, hsM t.goal (rcB t s noF) = B := ⟨_, rfl⟩
 have HB := Lib.hid hB
 have Hc : Hid (lmC t s = if B then 0 else 3) := Lib.hid (by unfold lmC; rw [e1, hB]; rfl)
 have Hno := Lib.hid hno
 clear e1 hB hno
 go_enter Tryz.func41, Tryz.ntmps41
 go_wp2_with fail
 refine (K1.out _ (by exact bel)).mono ?_
 rintro e w1 ⟨rfl, hb1⟩
 have hbx1 : Boxed w1 w.heap.size t ⟨av, ai, ag, ao, cv, ci, cg, co⟩ := Boxed.up (by constructor <;> simp) hb1
 have hbw1 : Below w.heap.size w w1 := by exact bel
 have z1 := hbw1.size
 clear hb1
 obtain ⟨z0, y0, y1, y2, y3⟩ := id hbx1
 dsimp only at y0 y1 y2 y3
 go_wp2_with fail
 refine wp_region_G 6 (fun w' => ∀ b o, w'.cell? ⟨b, o, none⟩ = if b < w1.heap.size then w1.cell? ⟨b, o, none⟩ else hidC w' b o) (by kernel_rfl) (cif (B := w1.heap.size) (W := w1) (Below.refl _ _).drew) ?_
 intro hG0
 refine wpS1 0 hG0 ?_; intro hG1; clear hG0
 refine wpS2 1 hG1 ?_; intro hG2; clear hG1
 refine wpS2 2 hG2 ?_; intro hG3; clear hG2
 refine wpS1 3 hG3 ?_; intro hG4; clear hG3
 refine wpAnyG_ready (rs := [4]) (by kernel_rfl) (by simp) (AllG.cons rfl hG4 (fun K hK => ?_) AllG.nil)
 (go_simp; go_at_call 77; refine (rnone_any _).mono ?_; rintro e w2 ⟨rfl, hb2⟩; have hb12 : Below w1.heap.size w1 w2 := (Below.refl _ _).drew.trans hb2; have z2 := hb12.size; clear hb2)
 refine hK.out _ _ (Or.inr (cif hb12)) (fun hG5 => wpN ?_); clear hK hG4
 refine wpAnyG_ready (rs := [5]) (by kernel_rfl) (by simp) (AllG.cons rfl hG5 (fun K hK => ?_) AllG.nil)
 (go_simp; go_at_call 76; refine (K3.out (-1) 0 _ (hbw1.trans (hb12.mono z1)) Hst.out).mono ?_; rintro e w3 ⟨⟨A, cA, g, rb, rfl, hA, hmat⟩, hb3⟩; have hb13 : Below w1.heap.size w1 w3 := hb12.trans (hb3.mono z2); have z3 := hb13.size; rw [Hno.out] at hmat; have HM := Lib.hid hmat; have HA := Lib.hid hA; clear hmat hA)
 refine hK.out _ _ (Or.inr (cif hb13)) (fun hG6 => wpN ?_); clear hK hG5
 refine wpAnyG_ready (rs := [6]) (by kernel_rfl) (by simp) (AllG.cons rfl hG6 (fun K hK => ?_) AllG.nil)
 (go_simp; go_at_call 75; refine (K4.out A cA g rb noF _ (hbw1.trans (hb13.mono z1)) HA.out HM.out).mono ?_; rintro e w4 ⟨rfl, hb4⟩; have hb14 : Below w1.heap.size w1 w4 := hb13.trans (hb4.mono z3); rw [HB.out])
 refine hK.out _ _ (Or.inl rfl) (fun hG7 => wpN ?_); clear hK hG6
 refine wpS1 7 hG7 ?_; intro hG8; clear hG7
 refine wpAnyG_done (by kernel_rfl) ?_ _; clear hG8
 have hbw4 := hbw1.trans (hb14.mono z1)
 have z4 := hbw4.size
 have hbx4 := hbx1.up hb14
 clear z0 y0 y1 y2 y3 hbx1 hb12 hb13 hb14 z2 z3 hb3 hb4 HM HA K1 HB Hno
 obtain ⟨z0, y0, y1, y2, y3⟩ := id hbx4
 dsimp only at y0 y1 y2 y3
 cases B
 ·go_wp2
  refine bodyPost_ret (v := .tuple #[.slice none 0 0, .int .i64 3]) (by simp [results, Tryz.results41, go_sem]) rfl ⟨⟨.slice none 0 0, by rw [Hc.out]; rfl, by unfold lmL; rw [Hc.out]; exact gotFs_nil _⟩, hbw4⟩
 go_wp2
 go_loopw [6, 26] (fun v i wr => ∃ (k : Nat), k ≤ t.vars.length ∧ i = .int .i64 k ∧ Hid (wr.ownsRow w4.heap.size 75 2 v (lmK t s k 0).length (fcl (lmK t s k 0))) ∧ Below w4.heap.size w4 wr) (fun _ i _ => t.vars.length - (intOf i).toNat)
 case atStart => exact ⟨0, by omega, rfl, Lib.hid (World.ownsRow_nil _ _ _ _), Below.refl _ _⟩
 case round =>
  clear z0 y0 y1 y2 y3
  obtain ⟨k, hk, rfl, hown, hbel⟩ := hrel
  have hbz := hbel.size
  have hbwr : Below w.heap.size w wr := hbw4.trans (hbel.mono z4)
  obtain ⟨z0, y0, y1, y2, y3⟩ := id (hbx4.up hbel)
  dsimp only at y0 y1 y2 y3
  by_cases hlt : k < t.vars.length
  ·obtain ⟨b1, o1, ea, hb1, hc1⟩ := ht.vars.at_ hlt
   dsimp only at ea
   subst ea
   have d1 := (hbwr.cell (p := ⟨b1, o1 + k, none⟩) hb1).trans (hc1 k hlt)
   have hbwz := hbwr.size
   have g1 : b1 < wr.heap.size := by omega
   have hdk := HR.out.dom k hlt
   obtain ⟨m, hm⟩ : ∃ m : Nat, nth t.vars k = (m : Int) := ⟨(nth t.vars k).toNat, by omega⟩
   have HE := Lib.hid (show lmK t s k m = lmK t s (k + 1) 0 by rw [← lmK_end, hm]; simp)
   rw [hm] at d1 hdk
   have k0 : (0 : Int) ≤ (k : Int) := by omega
   have k1 : (k : Int) < (t.vars.length : Int) := by omega
   have hsl : k < s.length := by have := stB_len Hst.out; omega
   have k2 : (k : Int) < (s.length : Int) := by omega
   clear hc1 hm
   obtain ⟨wt, rfl⟩ : ∃ wt : World, wt = wr := ⟨_, rfl⟩
   go_wp2
   go_loopw [6, 32] (fun v i wr => ∃ (j : Nat), j ≤ m ∧ i = .int .i64 j ∧ Hid (wr.ownsRow w4.heap.size 75 2 v (lmK t s k j).length (fcl (lmK t s k j))) ∧ Below w4.heap.size w4 wr) (fun _ i _ => m - (intOf i).toNat)
   case atStart => exact ⟨0, by omega, rfl, hown, hbel⟩
   case round =>
    clear z0 y0 y1 y2 y3 hown hbel hbz hbwz hbwr d1 g1
    obtain ⟨j, hj, rfl, hown, hbel⟩ := hrel
    have hbz := hbel.size
    have hbwr : Below w.heap.size w wr := hbw4.trans (hbel.mono z4)
    obtain ⟨z0, y0, y1, y2, y3⟩ := id (hbx4.up hbel)
    dsimp only at y0 y1 y2 y3
    by_cases hltj : j < m
    ·obtain ⟨b2, o2, eb, hb2, hc2⟩ := hs.at_ hsl
     subst eb
     have d3 := (hbwr.cell (p := ⟨b2, o2 + k, none⟩) hb2).trans (hc2 k hsl)
     have hbwz := hbwr.size
     have g2 : b2 < wr.heap.size := by omega
     have hlen := lmK_len (t := t) (s := s) HR.out hk (show j ≤ 64 by omega)
     clear hc2
     obtain ⟨y, hy⟩ : ∃ y, y = nth s k := ⟨_, rfl⟩
     rw [← hy] at d3
     by_cases e3 : y = (j : Int)
     ·have Hs := Lib.hid (lmK_no (t := t) (s := s) (k := k) (j := j) (by unfold lmB; simp [← hy, e3]))
      subst e3
      clear hy
      go_wp2_with fail
      refine wp_region_G 17 (fun w' => ∀ b o, w'.cell? ⟨b, o, none⟩ = if b < wr.heap.size then wr.cell? ⟨b, o, none⟩ else hidC w' b o) (by kernel_rfl) (cif (B := wr.heap.size) (Below.refl _ _).drew) ?_
      intro hG0
      refine wpS1 0 hG0 ?_; intro hG1; clear hG0
      refine wpS1 1 hG1 ?_; intro hG2; clear hG1
      refine wpS1 2 hG2 ?_; intro hG3; clear hG2
      refine wpS2 3 hG3 ?_; intro hG4; clear hG3
      refine wpS1 4 hG4 ?_; intro hG5; clear hG4
      refine wpS1 5 hG5 ?_; intro hG6; clear hG5
      refine wpS3 6 (.bool false) hG6 ?_; intro hG7; clear hG6
      refine wpS0 7 hG7 ?_; intro hG8; clear hG7
      refine wpS0 8 hG8 ?_; intro hG9; clear hG8
      refine wpS0 9 hG9 ?_; intro hG10; clear hG9
      refine wpS0 10 hG10 ?_; intro hG11; clear hG10
      refine wpS0 11 hG11 ?_; intro hG12; clear hG11
      refine wpS0 12 hG12 ?_; intro hG13; clear hG12
      refine wpS0 13 hG13 ?_; intro hG14; clear hG13
      refine wpS0 14 hG14 ?_; intro hG15; clear hG14
      refine wpS0 15 hG15 ?_; intro hG16; clear hG15
      refine wpS0 16 hG16 ?_; intro hG17; clear hG16
      refine wpAnyG_ready (rs := [17]) (by kernel_rfl) (by simp) (AllG.cons rfl hG17 (fun K hK => ?_) AllG.nil)
      (go_simp)
      refine hK.out _ _ (Or.inl rfl) (fun hG18 => wpN ?_); clear hK hG17
      refine wpAnyG_done (by kernel_rfl) ?_ _; clear hG18
      go_wp2
      go_roundw
      case rel => exact ⟨j + 1, by omega, by go_num, Lib.hid (by rw [Hs.out]; exact own_below hown.out ((Below.refl _ _).drew)), hbel.drew⟩
      case measure => simp [intOf]; omega
     ·have Hy := Lib.hid hy
      clear hy
      cases e4 : hsM t.goal (rcB t s ((k : Int), (j : Int)))
      all_goals
       have He4 := Lib.hid e4
       have Hs0 := Lib.hid (fun h => lmK_yes (t := t) (s := s) (k := k) (j := j) h)
       have Hs1 := Lib.hid (fun h => lmK_no (t := t) (s := s) (k := k) (j := j) h)
       have Hlb := Lib.hid (show lmB t s ((k : Int), (j : Int)) = !hsM t.goal (rcB t s ((k : Int), (j : Int))) by unfold lmB; simp [← Hy.out, e3])
       rw [He4.out] at Hlb
       clear e4
       go_wp2_with fail
       refine wp_region_G 15 (fun w' => ∀ b o, w'.cell? ⟨b, o, none⟩ = if b < wr.heap.size then wr.cell? ⟨b, o, none⟩ else hidC w' b o) (by kernel_rfl) (cif (B := wr.heap.size) (Below.refl _ _).drew) ?_
       intro hG0
       refine wpS1 0 hG0 ?_; intro hG1; clear hG0
       refine wpS1 1 hG1 ?_; intro hG2; clear hG1
       refine wpS1 2 hG2 ?_; intro hG3; clear hG2
       refine wpS2 3 hG3 ?_; intro hG4; clear hG3
       refine wpS1 4 hG4 ?_; intro hG5; clear hG4
       refine wpS1 5 hG5 ?_; intro hG6; clear hG5
       refine wpS3 6 (.bool true) hG6 ?_; intro hG7; clear hG6
       refine wpS1 7 hG7 ?_; intro hG8; clear hG7
       refine wpS2 8 hG8 ?_; intro hG9; clear hG8
       refine wpS2 9 hG9 ?_; intro hG10; clear hG9
       refine wpS1 10 hG10 ?_; intro hG11; clear hG10
       refine wpS1 11 hG11 ?_; intro hG12; clear hG11
       refine wpS1 12 hG12 ?_; intro hG13; clear hG12
       refine wpS1 13 hG13 ?_; intro hG14; clear hG13
       refine wpAnyG_ready (rs := [14]) (by kernel_rfl) (by simp) (AllG.cons rfl hG14 (fun K hK => ?_) AllG.nil)
       refine (if_pos (by rfl)).mpr ?_
       (go_simp; go_at_call 76; refine (K3.out (k : Int) (j : Int) _ (hbwr.drew) Hst.out).mono ?_; rintro e w7 ⟨⟨A7, c7, g7, rb7, rfl, hA7, hm7⟩, hb7⟩; have hbr7 : Below wr.heap.size wr w7 := (Below.refl _ _).drew.trans hb7; have z7 := hbr7.size; have HM7 := Lib.hid hm7; have HA7 := Lib.hid hA7; clear hm7 hb7 hA7)
       refine hK.out _ _ (Or.inr (cif hbr7)) (fun hG15 => wpN ?_); clear hK hG14
       refine wpAnyG_ready (rs := [15]) (by kernel_rfl) (by simp) (AllG.cons rfl hG15 (fun K hK => ?_) AllG.nil)
       refine (if_pos (by rfl)).mpr ?_
       (go_simp; go_at_call 75; refine (K4.out A7 c7 g7 rb7 ((k : Int), (j : Int)) _ (hbwr.trans (hbr7.mono hbwr.size)) HA7.out HM7.out).mono ?_; rintro e w8 ⟨rfl, hb8⟩; have hbr8 : Below wr.heap.size wr w8 := hbr7.trans (hb8.mono z7); have z8 := hbr8.size; rw [He4.out])
       refine hK.out _ _ (Or.inl rfl) (fun hG16 => wpN ?_); clear hK hG15
       refine wpS1 16 hG16 ?_; intro hG17; clear hG16
       refine wpS1 17 hG17 ?_; intro hG18; clear hG17
       refine wpAnyG_done (by kernel_rfl) ?_ _; clear hG18
       have hbx8 : Below w4.heap.size w4 w8 := hbel.trans (hbr8.mono hbz)
      ·go_wp2_with (at_builtin; refine wpList_push rfl _ _ 23 rfl w4.heap.size 75 inf (.agg #[.int .i64 0, .int .i64 0]) 2 16 undF8 hi iz0 iz1 iz2 rfl (by decide) (by decide) u6 (lmK t s k j).length (fcl (lmK t s k j)) rfl ((own_below hown.out hbr8).alloc _) w8.heap.size 75 [.int .i64 (k : Int), .int .i64 (j : Int)] rfl rfl (heap_alloc_new _ _) (two_one rfl rfl) (by omega) (by first | omega | (simp; omega)) (B := w4.heap.size) (W := w4) (hbx8.alloc (by omega) _) (Nat.le_refl _) ?_; intro v' w9 hown' hgrow hat hbw9; have Hown := Lib.hid hown'; clear hown' hgrow hat)
       go_roundw
       case rel => exact ⟨j + 1, by omega, by go_num, Lib.hid (by rw [Hs0.out Hlb.out, List.length_append, fcl_app]; exact Hown.out), hbw9⟩
       case measure => simp [intOf]; omega
      ·go_wp2
       go_roundw
       case rel => exact ⟨j + 1, by omega, by go_num, Lib.hid (by rw [Hs1.out Hlb.out]; exact own_below hown.out hbr8), hbx8⟩
       case measure => simp [intOf]; omega
    ·obtain rfl : j = m := by omega
     go_wp2
     go_roundw
     case rel => exact ⟨k + 1, by omega, by go_num, Lib.hid (by rw [← HE.out]; exact hown.out), hbel⟩
     case measure => simp [intOf]; omega
  ·obtain rfl : k = t.vars.length := by omega
   have hg := k_gotFs_own hown.out (by have := lmK_len (t := t) (s := s) HR.out hk (show 0 ≤ 64 by omega); omega)
   have Hg : Hid (GotFs wr u6 (lmL t s)) := Lib.hid (by unfold lmL; rw [if_pos (show lmC t s = 0 from Hc.out), ← lmK_all]; exact hg)
   obtain ⟨Ax, cx, hux⟩ := own_shape hown.out
   subst hux
   clear hg hown
   go_wp2
   refine bodyPost_ret (v := .tuple #[.slice Ax (lmK t s t.vars.length 0).length cx, .int .i64 0]) (by simp [results, Tryz.results41, go_sem]) rfl ⟨⟨_, by rw [Hc.out]; rfl, Hg.out⟩, hbwr⟩

end Go.Proofs.YtaampjhdgeoicaaGreat
