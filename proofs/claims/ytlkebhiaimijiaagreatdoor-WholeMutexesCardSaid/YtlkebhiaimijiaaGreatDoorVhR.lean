/- mutex.Table: made, walked. -/
import Derived.Test.YtlkebhiaimijiaaGreatDoorBel
import Derived.Test.YtlkebhiaimijiaaGreatDoorNgE
import Derived.Test.YtlkebhiaimijiaaGreatDoorNhE
import Derived.Deep.CutBlock
namespace Go.Proofs.YtlkebhiaimijiaaGreatDoor
set_option linter.unusedSimpArgs false
set_option linter.unusedVariables false
open Go Go.RowKit Go.Maps
set_option linter.unusedVariables false

set_option maxRecDepth 20000 in
set_option maxHeartbeats 32000000 in
theorem made_any {B X fc rc g C mb : Nat} {t : Tsk} {q : Lies} {fa ra : Option Addr} {rb : Nat → Nat} {M : Nat → Nat → Bool} (hr : Right t) (hck : chkC t = 0) (hnp : npV t.vars ≤ 1024) (p : List Fct) (A : Option Addr) (c : Nat) (hp : OneTwo t.vars p) (w : World) (h : TblAt w B X t q fa fc ra rc g rb M) (hC : TLow B C g rb (nF t.vars)) (hA : Fac w (fun b => b = mb) A p) (hm : CausAt w mb C t)
  (hsym : ∀ a b, IsF t.vars a → IsF t.vars b → rF t.vars M a b = rF t.vars M b a) :
  Calls Tryz.prog 28 #[.pointer (some ⟨X, 0, none⟩), .slice A p.length c, .map (some mb)] w fun e w' => ∃ ok : Bool, e = .returned (.tuple #[.bool ok, .nilIface]) ∧ (ok = true ↔ MadeS t (rF t.vars M) p) ∧ CausAt w' mb C t ∧ Kb (fun b => b = mb) w w' := by
 obtain ⟨qav, qai, qag, qao, qcv, qci, qcg, qco⟩ := q
 have hd := hr.dom
 have hn := hr.nv
 have hno := hr.no
 have HR := Lib.hid hr
 have HT := Lib.hid h
 have HCL := Lib.hid hC
 have HA := Lib.hid hA
 have HM := Lib.hid hm
 have HOT := Lib.hid hp
 have HSY := Lib.hid hsym
 have hCm := hm.le
 obtain ⟨hA0, hZ0, hl1, hl2, _⟩ := ot_isf hp
 have hd0 : ∀ k, k < t.vars.length → 0 ≤ nth t.vars k := fun k hk => by have := hd k hk; omega
 have HKB := Lib.hid (fun (W : World) (k : Kb (fun b => b = mb) w W) => h.kb k (C := C) (fun b e => by have e : b = mb := e; omega) hC)
 have HFB := Lib.hid (fun (W : World) (k : Kb (fun b => b = mb) w W) => hA.kb k)
 have KN := Lib.hid (fun (a : Fct) (ha : IsF t.vars a) (W : World) (k : Kb (fun b => b = mb) w W) => tnumber_any hd hn a ha W (HKB.out W k))
 have KT := Lib.hid (fun (o : Opr) (S T : Option Addr) (sc tc : Nat) (W : World) (k : Kb (fun b => b = mb) w W) (he : EffsAt W W.heap.size T o.effs) (hel : o.effs.length ≤ 1000000) => touches_any o p A S T c sc tc W (HFB.out W k).at_ (by omega) he hel)
 have KR := Lib.hid (fun (n : Nat) (hn : n < t.ops.length) (W : World) (k : Kb (fun b => b = mb) w W) => regressC_any t ⟨qav, qai, qag, qao, qcv, qci, qcg, qco⟩ n p A c W ((HKB.out W k).tsk.keep (fun _ _ => rfl) (HKB.out W k).le) hck hn (HFB.out W k).at_ (ot_fa hp))
 unfold TaskV at KR
 have HDD := Lib.hid hd
 have hi4 : numF t.vars (pA p) < 4097 := by
  have := num_lt hd0 hA0
  have h5 := frS_le hd _ (Nat.le_refl _)
  omega
 have hj4 : numF t.vars (pZ p) < 4097 := by
  have := num_lt hd0 hZ0
  have h5 := frS_le hd _ (Nat.le_refl _)
  omega
 have KA := Lib.hid (KN.out (pA p) hA0)
 have KZ := Lib.hid (KN.out (pZ p) hZ0)
 obtain ⟨i, hi⟩ : ∃ i, i = numF t.vars (pA p) := ⟨_, rfl⟩
 obtain ⟨j, hj⟩ : ∃ j, j = numF t.vars (pZ p) := ⟨_, rfl⟩
 rw [← hi] at KA hi4
 rw [← hj] at KZ hj4
 have HI := Lib.hid hi
 have HJ := Lib.hid hj
 obtain ⟨m, hm1⟩ : ∃ m, p.length = m + 1 := ⟨p.length - 1, by omega⟩
 have hm2 : m ≤ 1 := by omega
 have hwm : IntKind.i64.wrap (m : Int) = (m : Int) := IntWalk.i64_in _ (by omega)
 have HPC := Lib.hid (show ∀ W : World, Kb (fun b => b = mb) w W → ∃ ab ao, A = some ⟨ab, ao, none⟩ ∧ ab < W.heap.size ∧ W.cell? ⟨ab, ao, none⟩ = some (.int .i64 (pA p).1) ∧ W.cell? ⟨ab, ao + 1, none⟩ = some (.int .i64 (pA p).2) ∧ W.cell? ⟨ab, ao + m * 2, none⟩ = some (.int .i64 (pZ p).1) ∧ W.cell? ⟨ab, ao + m * 2 + 1, none⟩ = some (.int .i64 (pZ p).2) from fun W k => by
  obtain ⟨ab, ao, e, hb, hx, hc⟩ := (HFB.out W k).2 (by omega)
  have h0 := hc 0 (by omega)
  have h1 := hc m (by omega)
  rw [Nat.zero_mul, Nat.add_zero] at h0
  have e1 : p.length - 1 = m := by omega
  have e2 : pZ p = fcA2 p m := by unfold pZ; rw [e1]
  rw [e2]
  exact ⟨ab, ao, e, hb, h0.1, h0.2, h1.1, h1.2⟩)
 rw [hm1] at KT KR ⊢
 have HM1 := Lib.hid hm1
 have x3 := h.box.cell 3 (.slice qao t.ops.length qco) rfl
 have hXl := h.box.lt
 have HX := Lib.hid (fun (W : World) (k : Kb (fun b => b = mb) w W) => And.intro (HKB.out W k).box.lt (And.intro ((HKB.out W k).box.cell 0 _ rfl) (And.intro ((HKB.out W k).box.cell 1 _ rfl) (And.intro ((HKB.out W k).box.cell 2 _ rfl) ((HKB.out W k).box.cell 3 _ rfl)))))
 obtain ⟨a0, ha0⟩ : ∃ a0, a0 = pA p := ⟨_, rfl⟩
 obtain ⟨z0, hz0⟩ : ∃ z0, z0 = pZ p := ⟨_, rfl⟩
 rw [← ha0] at KA
 rw [← hz0] at KZ
 rw [← ha0, ← hz0] at HPC
 obtain ⟨a1, a2⟩ := a0
 obtain ⟨z1, z2⟩ := z0
 dsimp only at KA KZ HPC
 clear hr h hC hA hm hp hsym hd hi hj hm1 hd0 KN ha0 hz0 hA0 hZ0 hl1 hl2
 go_enter Tryz.func28, Tryz.ntmps28
 go_wp2_with fail
 clear x3
 go_loopw [20] (fun v20 wr => ∃ k : Nat, v20 = .int .i64 k ∧ k ≤ t.ops.length ∧ Hid (∀ n, n < k → ¬ (Touch (opr t.ops n) p ∧ ∃ z, RegS t.vars (opr t.ops n) p z ∧ HoldR (rF t.vars M) z)) ∧ Hid (CausAt wr mb C t) ∧ Hid (Kb (fun b => b = mb) w wr)) (fun v20 _ => t.ops.length - (intOf v20).toNat)
 case atStart => exact ⟨0, rfl, by omega, Lib.hid (fun n hn => by omega), HM, Lib.hid (Kb.refl _ _)⟩
 case round =>
  obtain ⟨k, rfl, hk, HN, HC, HK⟩ := hrel
  obtain ⟨wt, rfl⟩ : ∃ wt : World, wt = wr := ⟨_, rfl⟩
  have hwt := HK.out.size
  by_cases hlt : k < t.ops.length
  ·obtain ⟨b, o, S, sc, T, tc, ea, hb, d0, q0, d1, d2, f2, d3, e3⟩ := (HKB.out wt HK.out).tsk.ops.at2 (Below.refl _ _) hlt
   dsimp only at ea
   subst ea
   have hBl := (HKB.out wt HK.out).le
   have hbl : b < wt.heap.size := by omega
   have hne := HR.out.ne k hlt
   obtain ⟨oi, hoi⟩ : ∃ oi, oi = opr t.ops k := ⟨_, rfl⟩
   rw [← hoi] at d0 q0 d1 d2 f2 d3 e3 hne
   have HOI := Lib.hid hoi
   obtain ⟨W3, hW3⟩ : ∃ W3, W3 = wt.alloc (.cells #[.string oi.name, .int .i64 oi.cost, .slice S oi.pre.length sc, .slice T oi.effs.length tc] 63) := ⟨_, rfl⟩
   have hb3 : Below wt.heap.size wt W3 := by rw [hW3]; exact (Below.refl _ _).alloc (Nat.le_refl _) _
   have HB3 := Lib.hid hb3
   have HK3 := Lib.hid (HK.out.up hb3)
   have K3 := Lib.hid (KT.out oi S T sc tc W3 HK3.out (e3.keep (fun x hx => hb3.cell (Nat.lt_of_lt_of_le hx hBl)) (Nat.le_trans hBl hb3.size)) (by omega))
   have HQ0 := Lib.hid q0
   clear hoi f2 e3 hb3 q0
   go_wp2_with fail
   rw [← hW3]
   have HW3 := Lib.hid hW3
   clear hW3 d0 d1 d2 d3
   refine K3.out.mono ?_
   rintro e w4 ⟨rfl, hb4⟩
   have HB4 := Lib.hid (HB3.out.trans (hb4.mono HB3.out.size))
   have HK4 := Lib.hid (HK3.out.up hb4)
   have HC4 := Lib.hid (HC.out.up HB4.out)
   obtain ⟨tb, htb⟩ : ∃ tb, tb = tchB oi p := ⟨_, rfl⟩
   rw [← htb]
   have HTB := Lib.hid htb
   clear htb hb4 K3
   cases tb
   ·have HN2 := Lib.hid (show ∀ n, n < k + 1 → ¬ (Touch (opr t.ops n) p ∧ ∃ z, RegS t.vars (opr t.ops n) p z ∧ HoldR (rF t.vars M) z) from fun n hn hh => by
     rcases Nat.lt_or_ge n k with h1 | h1
     ·exact HN.out n h1 hh
     ·have : n = k := by omega
      subst this
      have h2 := tch_iff.2 hh.1
      rw [← HOI.out, ← HTB.out] at h2; cases h2)
    go_wp2
    go_roundw
    case rel => exact ⟨k + 1, by go_num, by omega, HN2, HC4, HK4⟩
    case measure => simp [intOf]; omega
   ·have HTO := Lib.hid (show Touch (opr t.ops k) p from by rw [← HOI.out]; exact tch_iff.1 HTB.out.symm)
    obtain ⟨ab, ao, hAe, hab, p0, p1, p2, p3⟩ := HPC.out w4 HK4.out
    subst hAe
    go_upto_region 5 with fail
    go_cut [10] (fun v10 wx => ∃ kb : Nat, v10 = .pointer (some ⟨kb, 0, none⟩) ∧ Hid (BxI wx kb 129 #[.int .i64 i, .int .i64 j, .int .i64 k]) ∧ Hid (Below w4.heap.size w4 wx))
    case first =>
     refine wp_region_G 12 (fun w' => ∀ b o, w'.cell? ⟨b, o, none⟩ = if b < w4.heap.size then w4.cell? ⟨b, o, none⟩ else hidC w' b o) (by kernel_rfl) (cif (B := w4.heap.size) (W := w4) (Below.refl _ _).drew) ?_
     intro hG0
     refine wpS1 0 hG0 ?_; intro hG1; clear hG0
     refine wpS1 1 hG1 ?_; intro hG2; clear hG1
     refine wpS1 2 hG2 ?_; intro hG3; clear hG2
     refine wpS2 3 hG3 ?_; intro hG4; clear hG3
     refine wpS1 5 hG4 ?_; intro hG5; clear hG4
     refine wpS1 6 hG5 ?_; intro hG6; clear hG5
     refine wpS1 7 hG6 ?_; intro hG7; clear hG6
     refine wpS1 8 hG7 ?_; intro hG8; clear hG7
     refine wpS1 9 hG8 ?_; intro hG9; clear hG8
     refine wpS1 10 hG9 ?_; intro hG10; clear hG9
     refine wpS2 11 hG10 ?_; intro hG11; clear hG10
     refine wpS1 13 hG11 ?_; intro hG12; clear hG11
     refine wpAnyG_ready (rs := [4, 15]) (by kernel_rfl) (by simp) (AllG.cons rfl hG12 (fun K hK => ?_) (AllG.cons rfl hG12 (fun K hK => ?_) AllG.nil))
     (go_simp; go_at_call 59; refine (KA.out _ (HK4.out.up (by exact bel))).mono ?_; rintro e w6 ⟨rfl, hb6⟩; have HB6 := Lib.hid (show Below w4.heap.size w4 w6 from below_step hb6 (show w4.heap.size ≤ _ by simp) (show Below w4.heap.size w4 _ by exact bel)); (try have HX := Lib.hid (HX.out.up hb6)); clear hb6)
     refine hK.out _ _ (Or.inr (cif HB6.out)) (fun hG13 => wpN ?_); clear hK hG12
     refine wpAnyG_ready (rs := [12, 15]) (by kernel_rfl) (by simp) (AllG.cons rfl hG13 (fun K hK => ?_) (AllG.cons rfl hG13 (fun K hK => ?_) AllG.nil))
     (go_simp; go_at_call 59; refine (KZ.out _ (HK4.out.up (HB6.out.trans (Below.mono (by exact bel) HB6.out.size)))).mono ?_; rintro e w7 ⟨rfl, hb7⟩; have HC7 := Lib.hid (show Below w6.heap.size w6 w7 from below_step hb7 (show w6.heap.size ≤ _ by simp) (show Below w6.heap.size w6 _ by exact bel)); have HB7 := Lib.hid (HB6.out.trans (HC7.out.mono HB6.out.size)); (try have HX := Lib.hid (HX.out.up hb7)); clear hb7)
     refine hK.out _ _ (Or.inl rfl) (fun hG14 => wpN ?_); clear hK hG13
     refine wpS1 14 hG14 ?_; intro hG15; clear hG14
     refine wpAnyG_ready (rs := [15]) (by kernel_rfl) (by simp) (AllG.cons rfl hG15 (fun K hK => ?_) AllG.nil)
     (go_simp; have HX := Lib.hid (BxI.new w7 129 #[.int .i64 0, .int .i64 0, .int .i64 0]); have hXge : w4.heap.size ≤ w7.heap.size := HB7.out.size)
     refine hK.out _ _ (Or.inl rfl) (fun hG16 => wpN ?_); clear hK hG15
     refine wpAnyG_ready (rs := [16]) (by kernel_rfl) (by simp) (AllG.cons rfl hG16 (fun K hK => ?_) AllG.nil)
     (refine step_stores (by rfl) 129 _ _ (by rfl) _ 0 [.int .i64 i, .int .i64 j, .int .i64 k] (by rfl) (by rfl) (there_blk HX.out (by simp)) (by kernel_rfl) (three_v rfl rfl rfl) ?_; intro wy HWY)
     refine hK.out _ _ (Or.inl rfl) (fun hG17 => wpN ?_); clear hK hG16
     refine wpAnyG_done (by kernel_rfl) ?_ _; clear hG17
     rotate_left
     (go_simp; have HX := Lib.hid (BxI.new w6 129 #[.int .i64 0, .int .i64 0, .int .i64 0]); have hXge : w4.heap.size ≤ w6.heap.size := HB6.out.size)
     refine hK.out _ _ (Or.inr (cif (HB6.out.trans (Below.mono (by exact bel) HB6.out.size)))) (fun hG14 => wpN ?_); clear hK hG13
     refine wpAnyG_ready (rs := [12]) (by kernel_rfl) (by simp) (AllG.cons rfl hG14 (fun K hK => ?_) AllG.nil)
     (go_simp; go_at_call 59; refine (KZ.out _ (HK4.out.up (HB6.out.trans (Below.mono (by exact bel) HB6.out.size)))).mono ?_; rintro e w7 ⟨rfl, hb7⟩; have HC7 := Lib.hid (show Below w6.heap.size w6 w7 from below_step hb7 (show w6.heap.size ≤ _ by simp) (show Below w6.heap.size w6 _ by exact bel)); have HB7 := Lib.hid (HB6.out.trans (HC7.out.mono HB6.out.size)); (try have HX := Lib.hid (HX.out.up hb7)); clear hb7)
     refine hK.out _ _ (Or.inl rfl) (fun hG15 => wpN ?_); clear hK hG14
     refine wpS1 14 hG15 ?_; intro hG16; clear hG15
     refine wpAnyG_ready (rs := [16]) (by kernel_rfl) (by simp) (AllG.cons rfl hG16 (fun K hK => ?_) AllG.nil)
     (refine step_stores (by rfl) 129 _ _ (by rfl) _ 0 [.int .i64 i, .int .i64 j, .int .i64 k] (by rfl) (by rfl) (there_blk HX.out (by simp)) (by kernel_rfl) (three_v rfl rfl rfl) ?_; intro wy HWY)
     refine hK.out _ _ (Or.inl rfl) (fun hG17 => wpN ?_); clear hK hG16
     refine wpAnyG_done (by kernel_rfl) ?_ _; clear hG17
     rotate_left
     (go_simp; have HX := Lib.hid (show BxI (w4.drew.alloc _) w4.heap.size 129 #[.int .i64 0, .int .i64 0, .int .i64 0] from BxI.new w4.drew _ _); have hXge : w4.heap.size ≤ w4.heap.size := Nat.le_refl _)
     refine hK.out _ _ (Or.inr (cif (by exact bel))) (fun hG13 => wpN ?_); clear hK hG12
     refine wpAnyG_ready (rs := [4]) (by kernel_rfl) (by simp) (AllG.cons rfl hG13 (fun K hK => ?_) AllG.nil)
     (go_simp; go_at_call 59; refine (KA.out _ (HK4.out.up (by exact bel))).mono ?_; rintro e w6 ⟨rfl, hb6⟩; have HB6 := Lib.hid (show Below w4.heap.size w4 w6 from below_step hb6 (show w4.heap.size ≤ _ by simp) (show Below w4.heap.size w4 _ by exact bel)); (try have HX := Lib.hid (HX.out.up hb6)); clear hb6)
     refine hK.out _ _ (Or.inr (cif HB6.out)) (fun hG14 => wpN ?_); clear hK hG13
     refine wpAnyG_ready (rs := [12]) (by kernel_rfl) (by simp) (AllG.cons rfl hG14 (fun K hK => ?_) AllG.nil)
     (go_simp; go_at_call 59; refine (KZ.out _ (HK4.out.up (HB6.out.trans (Below.mono (by exact bel) HB6.out.size)))).mono ?_; rintro e w7 ⟨rfl, hb7⟩; have HC7 := Lib.hid (show Below w6.heap.size w6 w7 from below_step hb7 (show w6.heap.size ≤ _ by simp) (show Below w6.heap.size w6 _ by exact bel)); have HB7 := Lib.hid (HB6.out.trans (HC7.out.mono HB6.out.size)); (try have HX := Lib.hid (HX.out.up hb7)); clear hb7)
     refine hK.out _ _ (Or.inl rfl) (fun hG15 => wpN ?_); clear hK hG14
     refine wpS1 14 hG15 ?_; intro hG16; clear hG15
     refine wpAnyG_ready (rs := [16]) (by kernel_rfl) (by simp) (AllG.cons rfl hG16 (fun K hK => ?_) AllG.nil)
     (refine step_stores (by rfl) 129 _ _ (by rfl) _ 0 [.int .i64 i, .int .i64 j, .int .i64 k] (by rfl) (by rfl) (there_blk HX.out (by simp)) (by kernel_rfl) (three_v rfl rfl rfl) ?_; intro wy HWY)
     refine hK.out _ _ (Or.inl rfl) (fun hG17 => wpN ?_); clear hK hG16
     refine wpAnyG_done (by kernel_rfl) ?_ _; clear hG17
     rotate_left
     all_goals
      have HXY := HX.out.setAll (vs := [.int .i64 i, .int .i64 j, .int .i64 k]) rfl
      rw [← HWY.out] at HXY
      have HBY : Below w4.heap.size w4 wy := by rw [HWY.out]; exact below_sets _ _ _ (HB7.out.trans (Below.mono (by exact bel) HB7.out.size)) hXge
      go_wp2
      go_meet
      exact ⟨_, rfl, Lib.hid HXY, Lib.hid HBY⟩
    case rest =>
     obtain ⟨kb, rfl, HKX, HB5⟩ := hcut
     obtain ⟨W5, rfl⟩ : ∃ W5, W5 = wc := ⟨_, rfl⟩
     have HK5 := Lib.hid (HK4.out.up HB5.out)
     have HC5 := Lib.hid (HC4.out.up HB5.out)
     obtain ⟨v, hlk, hv⟩ := HC5.out.look (i := i) (j := j) (k := k) (by omega) (by omega) (by omega)
     have y0 := HKX.out.cell 0 (.int .i64 i) rfl
     have y1 := HKX.out.cell 1 (.int .i64 j) rfl
     have y2 := HKX.out.cell 2 (.int .i64 k) rfl
     have hkl := HKX.out.lt
     clear p0 p1 p2 p3 hab
     rcases hv with ⟨rfl, hno⟩ | ⟨cb, rfl, hE⟩
     ·have HNO := Lib.hid hno
      obtain ⟨hXl5, x0, x1, x2, x3⟩ := HX.out W5 HK5.out
      have K6 := Lib.hid (KR.out k hlt W5 HK5.out)
      clear hno
      go_wp2_with fail
      refine K6.out.mono ?_
      rintro e w8 ⟨hret, hb8⟩
      have HK8 := Lib.hid (HK5.out.up hb8)
      have HC8 := Lib.hid (HC5.out.up hb8)
      rcases hret with ⟨A8, c8, hs, rfl, horl, hnd, hme, hff, hl8, hcp⟩ | ⟨rfl, hnpx⟩
      ·have hz5 := HC5.out.lt
       have hb9 : Below w8.heap.size w8 (w8.alloc (.cells #[.slice A8 hs.length c8] 132)) := (Below.refl _ _).alloc (Nat.le_refl _) _
       have hE9 : CausE (w8.alloc (.cells #[.slice A8 hs.length c8] 132)) C mb t i j k w8.heap.size := by
        have h85 := hb8.size
        refine ⟨by omega, by omega, A8, c8, hs, BxI.new _ _ _, ⟨(Orl.rls ⟨horl.own, fun y hy => (horl.fac y hy).sub (fun b _ hb => .inl (by omega))⟩ (by omega) (fun b off e hb => ?_)).up hb9, hcp, hff, hl8, fun p' hp' h1 h2 z => ?_⟩⟩
        ·subst e
         have := (horl.own.lt b rfl).1
         omega
        ·have hd0 : ∀ k, k < t.vars.length → 0 ≤ nth t.vars k := fun k hk => by have := HDD.out k hk; omega
         obtain ⟨g1, g2, _⟩ := ot_isf HOT.out
         obtain ⟨g3, g4, _⟩ := ot_isf hp'
         rw [HI.out] at h1
         rw [HJ.out] at h2
         have : p' = p := ot_uni hp' HOT.out (num_inj hd0 g3 g1 h1) (num_inj hd0 g4 g2 h2)
         rw [this]
         exact hme z
       obtain ⟨w12, hst, hc12, hk12, hE12⟩ := (HC8.out.up hb9).store (i := i) (j := j) (k := k) (by omega) (by omega) (by omega) ((HNO.out.up hb8).up hb9) hE9
       have HC12 := Lib.hid hc12
       have HK12 := Lib.hid ((HK8.out.up hb9).trans hk12)
       have hx8 := HKX.out.up hb8
       have y0 := hx8.cell 0 (.int .i64 i) rfl
       have y1 := hx8.cell 1 (.int .i64 j) rfl
       have y2 := hx8.cell 2 (.int .i64 k) rfl
       have hkl := hx8.lt
       have HE12 := Lib.hid hE12
       clear horl hnd hme hff hl8 hcp hb8 hb9 hE9 hc12 hk12 hE12 hx8 x0 x1 x2 x3 hXl5 hz5
       obtain ⟨hcb1, hcb2, LA, lc, hs, hbx, hcl⟩ := HE12.out
       have c0 := hbx.cell 0 (.slice LA hs.length lc) rfl
       have hcbl := hbx.lt
       have KH := Lib.hid (cau_hold (lc := lc) HDD.out hn (HKB.out w12 HK12.out) hcl)
       have HHM := Lib.hid (hls_made (M := M) (by rw [← HI.out, ← HJ.out]; exact hcl) HOT.out HSY.out)
       obtain ⟨r, hr⟩ : ∃ r, r = hlsB (rF t.vars M) hs := ⟨_, rfl⟩
       rw [← hr] at KH HHM
       clear hr hbx hcl hcb1 hcb2
       go_wp2_with fail
       refine KH.out.mono ?_
       rintro e w13 ⟨rfl, hb13⟩
       have HK13 := Lib.hid (HK12.out.up hb13)
       have HC13 := Lib.hid (HC12.out.up hb13)
       clear hb13 KH c0
       cases r
       ·have HN2 := Lib.hid (show ∀ n, n < k + 1 → ¬ (Touch (opr t.ops n) p ∧ ∃ z, RegS t.vars (opr t.ops n) p z ∧ HoldR (rF t.vars M) z) from fun n hn hh => by
         rcases Nat.lt_or_ge n k with h1 | h1
         ·exact HN.out n h1 hh
         ·have : n = k := by omega
          subst this
          have h2 := HHM.out.2 hh.2
          cases h2)
        go_wp2
        go_roundw
        case rel => exact ⟨k + 1, by go_num, by omega, HN2, HC13, HK13⟩
        case measure => simp [intOf]; omega
       ·have HMS := Lib.hid (show MadeS t (rF t.vars M) p from ⟨k, hlt, HTO.out, HHM.out.1 rfl⟩)
        go_wp2
        refine bodyPost_ret (v := .tuple #[.bool true, .nilIface]) (by simp [results, Tryz.results28, go_sem]) rfl ⟨true, rfl, ⟨fun _ => HMS.out, fun _ => rfl⟩, HC13.out, HK13.out⟩
      ·omega
     ·have HE5 := Lib.hid hE
      clear hE
      obtain ⟨hcb1, hcb2, LA, lc, hs, hbx, hcl⟩ := HE5.out
      have c0 := hbx.cell 0 (.slice LA hs.length lc) rfl
      have hcbl := hbx.lt
      have KH := Lib.hid (cau_hold (lc := lc) HDD.out hn (HKB.out W5 HK5.out) hcl)
      have HHM := Lib.hid (hls_made (M := M) (by rw [← HI.out, ← HJ.out]; exact hcl) HOT.out HSY.out)
      obtain ⟨r, hr⟩ : ∃ r, r = hlsB (rF t.vars M) hs := ⟨_, rfl⟩
      rw [← hr] at KH HHM
      clear hr hbx hcl hcb1 hcb2
      go_wp2_with fail
      refine KH.out.mono ?_
      rintro e w13 ⟨rfl, hb13⟩
      have HK13 := Lib.hid (HK5.out.up hb13)
      have HC13 := Lib.hid (HC5.out.up hb13)
      clear hb13 KH c0
      cases r
      ·have HN2 := Lib.hid (show ∀ n, n < k + 1 → ¬ (Touch (opr t.ops n) p ∧ ∃ z, RegS t.vars (opr t.ops n) p z ∧ HoldR (rF t.vars M) z) from fun n hn hh => by
        rcases Nat.lt_or_ge n k with h1 | h1
        ·exact HN.out n h1 hh
        ·have : n = k := by omega
         subst this
         have h2 := HHM.out.2 hh.2
         cases h2)
       go_wp2
       go_roundw
       case rel => exact ⟨k + 1, by go_num, by omega, HN2, HC13, HK13⟩
       case measure => simp [intOf]; omega
      ·have HMS := Lib.hid (show MadeS t (rF t.vars M) p from ⟨k, hlt, HTO.out, HHM.out.1 rfl⟩)
       go_wp2
       refine bodyPost_ret (v := .tuple #[.bool true, .nilIface]) (by simp [results, Tryz.results28, go_sem]) rfl ⟨true, rfl, ⟨fun _ => HMS.out, fun _ => rfl⟩, HC13.out, HK13.out⟩
  ·have HN9 := Lib.hid (show ¬ MadeS t (rF t.vars M) p from fun ⟨n, hn, h1, h2⟩ => HN.out n (by omega) ⟨h1, h2⟩)
   go_wp2
   refine bodyPost_ret (v := .tuple #[.bool false, .nilIface]) (by simp [results, Tryz.results28, go_sem]) rfl ⟨false, rfl, ⟨fun h => (by cases h), fun h => absurd h HN9.out⟩, HC.out, HK.out⟩
end Go.Proofs.YtlkebhiaimijiaaGreatDoor
