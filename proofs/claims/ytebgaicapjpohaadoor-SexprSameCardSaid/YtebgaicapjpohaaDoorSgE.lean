/- The law SexprSame, walked. -/
import Derived.Test.YtebgaicapjpohaaDoorRegA
import Derived.Test.YtebgaicapjpohaaDoorSgC
import Derived.Test.YtebgaicapjpohaaDoorSfE
namespace Go.Proofs.YtebgaicapjpohaaDoor
set_option linter.unusedSimpArgs false
set_option linter.unusedVariables false
open Go Go.RowKit
set_option linter.unusedVariables false

set_option maxHeartbeats 4000000 in
theorem large_any (k v l c : Int) (t : List UInt8) (A : Option Addr) (cap : Nat) (ks : List Sx) (w : World) (hx : SxIs w (fun _ => False) [.int .i64 k, .int .i64 v, .int .i64 l, .int .i64 c, .string (bs t), .slice A ks.length cap] (.mk k v l c t ks)) (hB : sxB (.mk k v l c t ks)) :
    Calls Tryd.prog 10 #[.agg #[.int .i64 k, .int .i64 v, .int .i64 l, .int .i64 c, .string (bs t), .slice A ks.length cap]] w fun e w' => (∃ b : Bool, e = .returned (.bool b)) ∧ Below w.heap.size w w' := by
  have KC := Lib.hid (fun W h => count_all _ (.mk k v l c t ks) (Nat.lt_succ_self _) [.int .i64 k, .int .i64 v, .int .i64 l, .int .i64 c, .string (bs t), .slice A ks.length cap] W h hB)
  have HX := Lib.hid hx
  clear hx hB
  go_enter Tryd.func10, Tryd.ntmps10
  go_wp2_with fail
  refine (KC.out _ (SxIs.move (Moves.up (by repeat (first | exact Below.refl _ _ | refine below_dN ?_ _ | refine Below.drew ?_ | refine Below.alloc ?_ (by first | omega | (simp; done) | (simp; omega)) _ | refine Below.setCell ?_ (by first | omega | (simp; done) | (simp; omega)) _ | refine below_step (by assumption) (by first | omega | (simp; done) | (simp; omega)) ?_))) _ _ HX.out)).mono ?_
  rintro e w2 ⟨⟨m, rfl⟩, hb2⟩
  have HB2 := Lib.hid hb2
  clear hb2
  go_wp2
  refine bodyPost_ret (v := .bool (decide (5000 < m))) (by simp [results, Tryd.results10, go_sem, ↓IntWalk.iteOmega, *]) rfl ⟨⟨_, rfl⟩, below_step HB2.out (by simp) (by repeat (first | exact Below.refl _ _ | refine below_dN ?_ _ | refine Below.drew ?_ | refine Below.alloc ?_ (by first | omega | (simp; done) | (simp; omega)) _ | refine Below.setCell ?_ (by first | omega | (simp; done) | (simp; omega)) _ | refine below_step (by assumption) (by first | omega | (simp; done) | (simp; omega)) ?_))⟩

set_option maxRecDepth 20000 in
set_option maxHeartbeats 8000000 in
theorem sexprSame_any (x y : Sx) (vs us : List Value) (line : Int) (w : World) (hx : SxIs w (fun _ => False) vs x) (hy : SxIs w (fun _ => False) us y) (hxB : sxB x) (hyB : sxB y) (hE : EnvS w) :
    Calls Tryd.prog 4 #[.agg (Array.mk vs), .agg (Array.mk us), .int .i64 line] w fun e w' => e = .returned (.bool true) ∧ Below w.heap.size w w' := by
  obtain ⟨k, v, l, c, t, ka⟩ := x
  obtain ⟨k', v', l', c', t', kb⟩ := y
  have hx0 := hx
  have hy0 := hy
  unfold SxIs at hx hy
  obtain ⟨A, ca, rfl, hA, hcap, hrow⟩ := hx
  obtain ⟨A', cb, rfl, hA', hcap', hrow'⟩ := hy
  have HX0 := Lib.hid hx0
  have HY0 := Lib.hid hy0
  have KLX := Lib.hid (fun W h => large_any k v l c t A ca ka W h hxB)
  have KLY := Lib.hid (fun W h => large_any k' v' l' c' t' A' cb kb W h hyB)
  have KA := Lib.hid (fun W hE => awake01_any W hE)
  have HE := Lib.hid hE
  have HXB := Lib.hid hxB
  have HYB := Lib.hid hyB
  have HAA := Lib.hid hA
  have HROW := Lib.hid hrow
  clear hx0 hy0 hE hxB hyB hrow hrow' hA hA' hcap'
  go_enter Tryd.func4, Tryd.ntmps4
  go_wp2_with fail
  obtain ⟨wa, hwa⟩ : ∃ wa : World, (w.alloc (Obj.cells #[.int .i64 k, .int .i64 v, .int .i64 l, .int .i64 c, .string (bs t), .slice A ka.length ca] 34)).alloc (Obj.cells #[.int .i64 k', .int .i64 v', .int .i64 l', .int .i64 c', .string (bs t'), .slice A' kb.length cb] 34) = wa := ⟨_, rfl⟩
  have HA := Lib.hid (show Below w.heap.size w wa by rw [← hwa]; repeat (first | exact Below.refl _ _ | refine below_dN ?_ _ | refine Below.drew ?_ | refine Below.alloc ?_ (by first | omega | (simp; done) | (simp; omega)) _ | refine Below.setCell ?_ (by first | omega | (simp; done) | (simp; omega)) _ | refine below_step (by assumption) (by first | omega | (simp; done) | (simp; omega)) ?_))
  have HY := Lib.hid (show BxI wa (w.heap.size + 1) 34 #[.int .i64 k', .int .i64 v', .int .i64 l', .int .i64 c', .string (bs t'), .slice A' kb.length cb] by rw [← hwa]; exact box2 _ _ _ _)
  have HX := Lib.hid (show BxI wa w.heap.size 34 #[.int .i64 k, .int .i64 v, .int .i64 l, .int .i64 c, .string (bs t), .slice A ka.length ca] by rw [← hwa]; exact (BxI.new _ _ _).up ((Below.refl _ _).alloc (Nat.le_refl _) _))
  obtain ⟨X, hX⟩ : ∃ X, w.heap.size = X := ⟨_, rfl⟩
  obtain ⟨Y, hY⟩ : ∃ Y, X + 1 = Y := ⟨_, rfl⟩
  rw [hX] at HX HY
  rw [hY] at HY
  rw [hwa, hX, hY]
  clear hwa
  refine (KLX.out wa (SxIs.move (Moves.up HA.out) _ _ HX0.out)).mono ?_
  rintro e w1 ⟨⟨b1, rfl⟩, hb1⟩
  have HB1 := Lib.hid (HA.out.trans (hb1.mono HA.out.size))
  have HX1 := Lib.hid (HX.out.up hb1)
  have HY1 := Lib.hid (HY.out.up hb1)
  clear hb1
  cases b1 with
  | true =>
    go_wp2_with fail
    refine (KA.out _ (HE.out.up HB1.out)).mono ?_
    rintro e w2 ⟨rfl, hb2⟩
    have HB2 := Lib.hid (HB1.out.trans (hb2.mono HB1.out.size))
    clear hb2
    go_wp2
    refine bodyPost_ret (v := .bool true) (by simp [results, Tryd.results4, go_sem, ↓IntWalk.iteOmega, *]) rfl ⟨rfl, HB2.out⟩
  | false =>
    have y0 := HY1.out.cell 0 _ rfl
    have y1 := HY1.out.cell 1 _ rfl
    have y2 := HY1.out.cell 2 _ rfl
    have y3 := HY1.out.cell 3 _ rfl
    have y4 := HY1.out.cell 4 _ rfl
    have y5 := HY1.out.cell 5 _ rfl
    go_wp2_with fail
    refine (KLY.out w1 (SxIs.move (Moves.up HB1.out) _ _ HY0.out)).mono ?_
    rintro e w2 ⟨⟨b2, rfl⟩, hb2⟩
    have HB2 := Lib.hid (HB1.out.trans (hb2.mono HB1.out.size))
    have HX2 := Lib.hid (HX1.out.up hb2)
    have HY2 := Lib.hid (HY1.out.up hb2)
    clear hb2 y0 y1 y2 y3 y4 y5
    cases b2 with
    | true =>
      go_wp2_with fail
      refine (KA.out _ (HE.out.up HB2.out)).mono ?_
      rintro e w3 ⟨rfl, hb3⟩
      have HB3 := Lib.hid (HB2.out.trans (hb3.mono HB2.out.size))
      clear hb3
      go_wp2
      refine bodyPost_ret (v := .bool true) (by simp [results, Tryd.results4, go_sem, ↓IntWalk.iteOmega, *]) rfl ⟨rfl, HB3.out⟩
    | false =>
      go_wp2_with fail
      refine (KA.out _ (HE.out.up HB2.out)).mono ?_
      rintro e w3 ⟨rfl, hb3⟩
      have HB3 := Lib.hid (HB2.out.trans (hb3.mono HB2.out.size))
      have HX3 := Lib.hid (HX2.out.up hb3)
      have HY3 := Lib.hid (HY2.out.up hb3)
      clear hb3
      have x0 := HX3.out.cell 0 _ rfl
      have x1 := HX3.out.cell 1 _ rfl
      have x2 := HX3.out.cell 2 _ rfl
      have x3 := HX3.out.cell 3 _ rfl
      have x4 := HX3.out.cell 4 _ rfl
      have x5 := HX3.out.cell 5 _ rfl
      go_wp2_with (refine wpList_store6 (by rfl) 34 _ _ (by rfl) w3.heap.size 0 (.int .i64 k) (.int .i64 v) (.int .i64 l) (.int .i64 c) (.string (bs t)) (.slice A ka.length ca) (by rfl) (by rfl) (there_blk (heap_alloc_new _ _) (Nat.le_refl 6)) qsizeSx (six_one rfl rfl rfl rfl rfl rfl) ?_; intro w4 HW4; have HB4 := Lib.hid (show Below w3.heap.size w3 w4 by rw [HW4.out]; refine below_set6 ?_ (Nat.le_refl _); repeat (first | exact Below.refl _ _ | refine below_dN ?_ _ | refine Below.drew ?_ | refine Below.alloc ?_ (by first | omega | (simp; done) | (simp; omega)) _ | refine Below.setCell ?_ (by first | omega | (simp; done) | (simp; omega)) _ | refine below_step (by assumption) (by first | omega | (simp; done) | (simp; omega)) ?_)); have HZ4 := Lib.hid (show BxI w4 w3.heap.size 34 #[.int .i64 k, .int .i64 v, .int .i64 l, .int .i64 c, .string (bs t), .slice A ka.length ca] by rw [HW4.out]; exact BxI.set6 (BxI.new _ _ _)); have z2 := HZ4.out.cell 2 _ rfl; have z3 := HZ4.out.cell 3 _ rfl; have zf2 := HZ4.out.fz 2; have zf3 := HZ4.out.fz 3)
      obtain ⟨nl, hnl⟩ : ∃ nl, wrap64 (-line) = nl := ⟨_, rfl⟩
      obtain ⟨Z, hZ⟩ : ∃ Z, w3.heap.size = Z := ⟨_, rfl⟩
      rw [hZ] at HZ4
      rw [hnl, hZ]
      obtain ⟨w5, hw5⟩ : ∃ w5 : World, (w4.setCell ⟨Z, 2, none⟩ (.int .i64 line)).setCell ⟨Z, 3, none⟩ (.int .i64 nl) = w5 := ⟨_, rfl⟩
      have HB5 := Lib.hid (show Below w3.heap.size w3 w5 by rw [← hw5]; exact (HB4.out.setCell (p := ⟨Z, 2, none⟩) (by show w3.heap.size ≤ Z; omega) _).setCell (p := ⟨Z, 3, none⟩) (by show w3.heap.size ≤ Z; omega) _)
      have HZ5 := Lib.hid (show BxI w5 Z 34 #[.int .i64 k, .int .i64 v, .int .i64 line, .int .i64 nl, .string (bs t), .slice A ka.length ca] by rw [← hw5]; exact (HZ4.out.set 2 _).set 3 _)
      have HX5 := Lib.hid (HX3.out.up HB5.out)
      have HY5 := Lib.hid (HY3.out.up HB5.out)
      have HW5 := Lib.hid (HB3.out.trans (HB5.out.mono HB3.out.size))
      rw [hw5]
      clear hw5 hnl hZ x0 x1 x2 x3 x4 x5 z2 z3 zf2 zf3
      have HS1 := Lib.hid (show ∀ w' : World, Below w5.heap.size w5 w' → w'.cell? ⟨X, 0, none⟩ = some (.int .i64 k) ∧ w'.cell? ⟨X, 1, none⟩ = some (.int .i64 v) ∧ w'.cell? ⟨X, 2, none⟩ = some (.int .i64 l) ∧ w'.cell? ⟨X, 3, none⟩ = some (.int .i64 c) ∧ w'.cell? ⟨X, 4, none⟩ = some (.string (bs t)) ∧ w'.cell? ⟨X, 5, none⟩ = some (.slice A ka.length ca) ∧ w'.cell? ⟨Y, 0, none⟩ = some (.int .i64 k') ∧ w'.cell? ⟨Y, 1, none⟩ = some (.int .i64 v') ∧ w'.cell? ⟨Y, 2, none⟩ = some (.int .i64 l') ∧ w'.cell? ⟨Y, 3, none⟩ = some (.int .i64 c') ∧ w'.cell? ⟨Y, 4, none⟩ = some (.string (bs t')) ∧ w'.cell? ⟨Y, 5, none⟩ = some (.slice A' kb.length cb) ∧ w'.cell? ⟨Z, 0, none⟩ = some (.int .i64 k) ∧ w'.cell? ⟨Z, 1, none⟩ = some (.int .i64 v) ∧ w'.cell? ⟨Z, 2, none⟩ = some (.int .i64 line) ∧ w'.cell? ⟨Z, 3, none⟩ = some (.int .i64 nl) ∧ w'.cell? ⟨Z, 4, none⟩ = some (.string (bs t)) ∧ w'.cell? ⟨Z, 5, none⟩ = some (.slice A ka.length ca) from fun w' hb => ⟨(HX5.out.up hb).cell 0 _ rfl, (HX5.out.up hb).cell 1 _ rfl, (HX5.out.up hb).cell 2 _ rfl, (HX5.out.up hb).cell 3 _ rfl, (HX5.out.up hb).cell 4 _ rfl, (HX5.out.up hb).cell 5 _ rfl, (HY5.out.up hb).cell 0 _ rfl, (HY5.out.up hb).cell 1 _ rfl, (HY5.out.up hb).cell 2 _ rfl, (HY5.out.up hb).cell 3 _ rfl, (HY5.out.up hb).cell 4 _ rfl, (HY5.out.up hb).cell 5 _ rfl, (HZ5.out.up hb).cell 0 _ rfl, (HZ5.out.up hb).cell 1 _ rfl, (HZ5.out.up hb).cell 2 _ rfl, (HZ5.out.up hb).cell 3 _ rfl, (HZ5.out.up hb).cell 4 _ rfl, (HZ5.out.up hb).cell 5 _ rfl⟩)
      have HXM := Lib.hid (fun W (hb : Below w5.heap.size w5 W) => (SxIs.move (Moves.up (HW5.out.trans (hb.mono HW5.out.size))) _ _ HX0.out : SxIs W (fun _ => False) [.int .i64 k, .int .i64 v, .int .i64 l, .int .i64 c, .string (bs t), .slice A ka.length ca] (.mk k v l c t ka)))
      have HYM := Lib.hid (fun W (hb : Below w5.heap.size w5 W) => (SxIs.move (Moves.up (HW5.out.trans (hb.mono HW5.out.size))) _ _ HY0.out : SxIs W (fun _ => False) [.int .i64 k', .int .i64 v', .int .i64 l', .int .i64 c', .string (bs t'), .slice A' kb.length cb] (.mk k' v' l' c' t' kb)))
      have HZM := Lib.hid (fun W (hb : Below w5.heap.size w5 W) => (by
        unfold SxIs
        exact ⟨A, ca, rfl, HAA.out, hcap, RowAt.move (Moves.up (HW5.out.trans (hb.mono HW5.out.size))) _ _ _ HROW.out⟩ : SxIs W (fun _ => False) [.int .i64 k, .int .i64 v, .int .i64 line, .int .i64 nl, .string (bs t), .slice A ka.length ca] (.mk k v line nl t ka)))
      obtain ⟨r, hr⟩ : ∃ r, sameX (.mk k v l c t ka) (.mk k' v' l' c' t' kb) = r := ⟨_, rfl⟩
      have hr2 : sameX (.mk k' v' l' c' t' kb) (.mk k v l c t ka) = r := by rw [sameX_comm, hr]
      have k1 := fun W hb => same_all _ (.mk k v l c t ka) (Nat.lt_succ_self _) (.mk k' v' l' c' t' kb) _ _ W (HXM.out W hb) (HYM.out W hb) HXB.out
      have k2 := fun W hb => rsame_all _ (.mk k v l c t ka) (Nat.lt_succ_self _) (.mk k' v' l' c' t' kb) _ _ W (HXM.out W hb) (HYM.out W hb) HXB.out
      have k3 := fun W hb => same_all _ (.mk k' v' l' c' t' kb) (Nat.lt_succ_self _) (.mk k v l c t ka) _ _ W (HYM.out W hb) (HXM.out W hb) HYB.out
      have k4 := fun W hb => same_all _ (.mk k v l c t ka) (Nat.lt_succ_self _) (.mk k v line nl t ka) _ _ W (HXM.out W hb) (HZM.out W hb) HXB.out
      have k5 := fun W hb => same_all _ (.mk k v line nl t ka) (Nat.lt_succ_self _) (.mk k v l c t ka) _ _ W (HZM.out W hb) (HXM.out W hb) (by have := HXB.out; unfold sxB at this ⊢; exact this)
      rw [hr] at k1 k2
      rw [hr2] at k3
      rw [sameX_refl] at k4 k5
      have K1 := Lib.hid k1
      have K2 := Lib.hid k2
      have K3 := Lib.hid k3
      have K4 := Lib.hid k4
      have K5 := Lib.hid k5
      clear k1 k2 k3 k4 k5 hr hr2 hcap
      refine wp_region_G 24 (fun w' => w'.cell? ⟨X, 0, none⟩ = some (.int .i64 k) ∧ w'.cell? ⟨X, 1, none⟩ = some (.int .i64 v) ∧ w'.cell? ⟨X, 2, none⟩ = some (.int .i64 l) ∧ w'.cell? ⟨X, 3, none⟩ = some (.int .i64 c) ∧ w'.cell? ⟨X, 4, none⟩ = some (.string (bs t)) ∧ w'.cell? ⟨X, 5, none⟩ = some (.slice A ka.length ca) ∧ w'.cell? ⟨Y, 0, none⟩ = some (.int .i64 k') ∧ w'.cell? ⟨Y, 1, none⟩ = some (.int .i64 v') ∧ w'.cell? ⟨Y, 2, none⟩ = some (.int .i64 l') ∧ w'.cell? ⟨Y, 3, none⟩ = some (.int .i64 c') ∧ w'.cell? ⟨Y, 4, none⟩ = some (.string (bs t')) ∧ w'.cell? ⟨Y, 5, none⟩ = some (.slice A' kb.length cb) ∧ w'.cell? ⟨Z, 0, none⟩ = some (.int .i64 k) ∧ w'.cell? ⟨Z, 1, none⟩ = some (.int .i64 v) ∧ w'.cell? ⟨Z, 2, none⟩ = some (.int .i64 line) ∧ w'.cell? ⟨Z, 3, none⟩ = some (.int .i64 nl) ∧ w'.cell? ⟨Z, 4, none⟩ = some (.string (bs t)) ∧ w'.cell? ⟨Z, 5, none⟩ = some (.slice A ka.length ca)) (by kernel_rfl) (HS1.out _ (by repeat (first | exact Below.refl _ _ | refine below_dN ?_ _ | refine Below.drew ?_ | refine Below.alloc ?_ (by first | omega | (simp; done) | (simp; omega)) _ | refine Below.setCell ?_ (by first | omega | (simp; done) | (simp; omega)) _ | refine below_step (by assumption) (by first | omega | (simp; done) | (simp; omega)) ?_))) ?_
      intro hG0
      refine wpS2 0 hG0 ?_; intro hG1; clear hG0
      refine wpS2 1 hG1 ?_; intro hG2; clear hG1
      refine wpS2 3 hG2 ?_; intro hG3; clear hG2
      refine wpS2 4 hG3 ?_; intro hG4; clear hG3
      refine wpAnyG_ready (rs := [2]) (by kernel_rfl) (by simp) (AllG.cons rfl hG4 (fun K hK => ?_) AllG.nil)
      (go_simp; go_at_call 11; refine (K1.out _ (by repeat (first | exact Below.refl _ _ | refine below_dN ?_ _ | refine Below.drew ?_ | refine Below.alloc ?_ (by first | omega | (simp; done) | (simp; omega)) _ | refine Below.setCell ?_ (by first | omega | (simp; done) | (simp; omega)) _ | refine below_step (by assumption) (by first | omega | (simp; done) | (simp; omega)) ?_))).mono ?_; rintro e w6 ⟨rfl, hb6⟩; have HB6 := Lib.hid (show Below w5.heap.size w5 w6 from below_step hb6 (show w5.heap.size ≤ w5.drew.heap.size from Nat.le_refl _) (Below.refl _ _).drew); clear hb6)
      refine hK.out _ _ (Or.inr (HS1.out _ HB6.out)) (fun hG5 => wpN ?_); clear hK hG4
      refine wpAnyG_ready (rs := [5]) (by kernel_rfl) (by simp) (AllG.cons rfl hG5 (fun K hK => ?_) AllG.nil)
      (go_simp; go_at_call 12; refine (K2.out _ HB6.out).mono ?_; rintro e w7 ⟨rfl, hb7⟩; have HB7 := Lib.hid (show Below w5.heap.size w5 w7 from below_step hb7 HB6.out.size HB6.out); clear hb7)
      refine hK.out _ _ (Or.inr (HS1.out _ HB7.out)) (fun hG6 => wpN ?_); clear hK hG5
      refine wpS1 6 hG6 ?_; intro hG7; clear hG6
      refine wpS3 7 (.bool true) hG7 ?_; intro hG8; clear hG7
      refine wpS2 8 hG8 ?_; intro hG9; clear hG8
      refine wpS2 9 hG9 ?_; intro hG10; clear hG9
      refine wpS2 11 hG10 ?_; intro hG11; clear hG10
      refine wpS2 12 hG11 ?_; intro hG12; clear hG11
      refine wpAnyG_ready (rs := [10]) (by kernel_rfl) (by simp) (AllG.cons rfl hG12 (fun K hK => ?_) AllG.nil)
      refine (if_pos (by rfl)).mpr ?_
      (go_simp; go_at_call 11; refine (K3.out _ HB7.out).mono ?_; rintro e w8 ⟨rfl, hb8⟩; have HB8 := Lib.hid (show Below w5.heap.size w5 w8 from below_step hb8 HB7.out.size HB7.out); clear hb8)
      refine hK.out _ _ (Or.inr (HS1.out _ HB8.out)) (fun hG13 => wpN ?_); clear hK hG12
      refine wpAnyG_ready (rs := [13]) (by kernel_rfl) (by simp) (AllG.cons rfl hG13 (fun K hK => ?_) AllG.nil)
      refine (if_pos (by rfl)).mpr ?_
      (go_simp; go_at_call 12; refine (K2.out _ HB8.out).mono ?_; rintro e w9 ⟨rfl, hb9⟩; have HB9 := Lib.hid (show Below w5.heap.size w5 w9 from below_step hb9 HB8.out.size HB8.out); clear hb9)
      refine hK.out _ _ (Or.inr (HS1.out _ HB9.out)) (fun hG14 => wpN ?_); clear hK hG13
      refine wpS1 14 hG14 ?_; intro hG15; clear hG14
      refine wpS1 15 hG15 ?_; intro hG16; clear hG15
      refine wpS3 16 (.bool true) hG16 ?_; intro hG17; clear hG16
      refine wpS2 17 hG17 ?_; intro hG18; clear hG17
      refine wpS2 18 hG18 ?_; intro hG19; clear hG18
      refine wpAnyG_ready (rs := [19]) (by kernel_rfl) (by simp) (AllG.cons rfl hG19 (fun K hK => ?_) AllG.nil)
      refine (if_pos (by rfl)).mpr ?_
      (go_simp; go_at_call 11; refine (K4.out _ HB9.out).mono ?_; rintro e w10 ⟨rfl, hb10⟩; have HB10 := Lib.hid (show Below w5.heap.size w5 w10 from below_step hb10 HB9.out.size HB9.out); clear hb10)
      refine hK.out _ _ (Or.inr (HS1.out _ HB10.out)) (fun hG20 => wpN ?_); clear hK hG19
      refine wpS1 20 hG20 ?_; intro hG21; clear hG20
      refine wpS3 21 (.bool true) hG21 ?_; intro hG22; clear hG21
      refine wpS2 22 hG22 ?_; intro hG23; clear hG22
      refine wpS2 23 hG23 ?_; intro hG24; clear hG23
      refine wpAnyG_ready (rs := [24]) (by kernel_rfl) (by simp) (AllG.cons rfl hG24 (fun K hK => ?_) AllG.nil)
      refine (if_pos (by rfl)).mpr ?_
      (go_simp; go_at_call 11; refine (K5.out _ HB10.out).mono ?_; rintro e w11 ⟨rfl, hb11⟩; have HB11 := Lib.hid (show Below w5.heap.size w5 w11 from below_step hb11 HB10.out.size HB10.out); clear hb11)
      refine hK.out _ _ (Or.inl rfl) (fun hG25 => wpN ?_); clear hK hG24
      refine wpS1 25 hG25 ?_; intro hG26; clear hG25
      refine wpS1 26 hG26 ?_; intro hG27; clear hG26
      refine wpAnyG_done (by kernel_rfl) ?_ _; clear hG27
      go_wp2
      refine bodyPost_ret (v := .bool true) (by simp [results, Tryd.results4, go_sem, ↓IntWalk.iteOmega, *]) rfl ⟨rfl, HW5.out.trans (HB11.out.mono HW5.out.size)⟩
end Go.Proofs.YtebgaicapjpohaaDoor
