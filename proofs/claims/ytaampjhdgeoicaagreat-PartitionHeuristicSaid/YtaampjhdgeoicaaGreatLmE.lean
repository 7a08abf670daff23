/- landmark: all, Facts. -/
import Derived.Test.YtaampjhdgeoicaaGreatMfA
import Derived.Test.YtaampjhdgeoicaaGreatLmD
namespace Go.Proofs.YtaampjhdgeoicaaGreat
set_option linter.unusedSimpArgs false
set_option linter.unusedVariables false
open Go Go.RowKit
set_option linter.unusedVariables false

theorem k_gotFs_own {w : World} {B : Nat} {v : Value} {l : List (Int × Int)} (h : w.ownsRow B 75 2 v l.length (fcl l)) (hl : l.length ≤ 1000000) : GotFs w v l := by
 rcases h.2 with ⟨rfl, h0⟩ | ⟨g, cap, cur, rfl, hb, hg, hh⟩
 ·exact ⟨none, 0, by rw [h0], fun _ => rfl, by omega, fun hp => absurd hp (by omega)⟩
 ·obtain ⟨S, c, e, hf⟩ := faB_own (lo := 0) h (Nat.zero_le _) hl
  exact ⟨S, c, e, (fun e2 => by rw [e2] at e; cases e), hf.at_⟩
def alK (vars : List Int) (k j : Nat) : List (Int × Int) := alN vars k ++ alR k j
theorem alK_zero (vars : List Int) (k : Nat) : alK vars k 0 = alN vars k := by unfold alK alR; simp
theorem alK_succ (vars : List Int) (k j : Nat) : alK vars k (j + 1) = alK vars k j ++ [((k : Int), (j : Int))] := by unfold alK; rw [alR_succ, List.append_assoc]
theorem alK_end (vars : List Int) (k : Nat) : alK vars k (nth vars k).toNat = alN vars (k + 1) := (alN_succ vars k).symm
theorem alK_len {vars : List Int} (h : ∀ k, k < vars.length → 1 ≤ nth vars k ∧ nth vars k ≤ 64) (hn : vars.length ≤ 64) {k j : Nat} (hk : k ≤ vars.length) (hj : j ≤ 64) : (alK vars k j).length ≤ 10000 := by
 unfold alK
 rw [List.length_append, alR_len]
 have := alN_len h k hk
 omega

set_option maxRecDepth 100000 in
set_option maxHeartbeats 8000000 in
theorem lall_any (t : Tsk) (q : LiesF) (G : Nat) (w : World) (hF : FindAt w G t q) (hr : Right t) :
  Calls Tryz.prog 67 #[.pointer (some ⟨G, 0, none⟩)] w fun e w' => (∃ v, e = .returned v ∧ GotFs w' v (alF t.vars)) ∧ Below w.heap.size w w' := by
 have n64 := hr.nv
 have HD := Lib.hid hr.dom
 clear hr
 obtain ⟨av, ag, ac, au, cv, cg, cc, cu⟩ := q
 obtain ⟨q0, q1, q2, q3, q4, q5, q6, q7, q8⟩ := hF
 dsimp only at q1 q2 q3 q4 q5 q6 q7 q8
 obtain ⟨inf, hi, iz0, iz1, iz2⟩ := info_parts infoF8
 clear q2 q3 q4 q6 q7 q8
 go_enter Tryz.func67, Tryz.ntmps67
 go_wp2
 go_loopw [3, 12] (fun v i wr => ∃ (k : Nat), k ≤ t.vars.length ∧ i = .int .i64 k ∧ Hid (wr.ownsRow w.heap.size 75 2 v (alN t.vars k).length (fcl (alN t.vars k))) ∧ Below w.heap.size w wr) (fun _ i _ => t.vars.length - (intOf i).toNat)
 case atStart => exact ⟨0, by omega, rfl, Lib.hid (World.ownsRow_nil _ _ _ _), Below.refl _ _⟩
 case round =>
  obtain ⟨k, hk, rfl, hown, hbel⟩ := hrel
  have hbz := hbel.size
  by_cases hlt : k < t.vars.length
  ·obtain ⟨b1, o1, ea, hb1, hc1⟩ := q5.at_ hlt
   subst ea
   have d1 := (hbel.cell (p := ⟨b1, o1 + k, none⟩) hb1).trans (hc1 k hlt)
   have g1 : b1 < wr.heap.size := by omega
   have hdk := HD.out k hlt
   obtain ⟨m, hm⟩ : ∃ m : Nat, nth t.vars k = (m : Int) := ⟨(nth t.vars k).toNat, by omega⟩
   have HE := Lib.hid (show alK t.vars k m = alN t.vars (k + 1) by rw [← alK_end, hm]; simp)
   rw [hm] at d1 hdk
   have k0 : (0 : Int) ≤ (k : Int) := by omega
   have k1 : (k : Int) < (t.vars.length : Int) := by omega
   clear hc1 hm
   go_wp2
   go_loopw [3, 18] (fun v i wr => ∃ (j : Nat), j ≤ m ∧ i = .int .i64 j ∧ Hid (wr.ownsRow w.heap.size 75 2 v (alK t.vars k j).length (fcl (alK t.vars k j))) ∧ Below w.heap.size w wr) (fun _ i _ => m - (intOf i).toNat)
   case atStart => exact ⟨0, by omega, rfl, Lib.hid (by rw [alK_zero]; exact hown.out), hbel⟩
   case round =>
    obtain ⟨j, hj, rfl, hown2, hbx⟩ := hrel
    have hbxz := hbx.size
    by_cases hltj : j < m
    ·have hlen := alK_len HD.out n64 hk (show j ≤ 64 by omega)
     have HP := Lib.hid (alK_succ t.vars k j)
     go_wp2_with (at_builtin; refine wpList_push rfl _ _ 23 rfl w.heap.size 75 inf (.agg #[.int .i64 0, .int .i64 0]) 2 16 undF8 hi iz0 iz1 iz2 rfl (by decide) (by decide) u3 (alK t.vars k j).length (fcl (alK t.vars k j)) rfl (hown2.out.alloc _) wr.heap.size 75 [.int .i64 (k : Int), .int .i64 (j : Int)] rfl rfl (heap_alloc_new _ _) (two_one rfl rfl) (by omega) (by first | omega | (simp; omega)) (B := w.heap.size) (W := w) (hbx.alloc hbxz _) (Nat.le_refl _) ?_; intro v' w8 hown' hgrow hat hbw8; have Hown := Lib.hid hown'; clear hown' hgrow hat)
     go_roundw
     case rel => exact ⟨j + 1, by omega, by go_num, Lib.hid (by rw [HP.out, List.length_append, fcl_app]; exact Hown.out), hbw8⟩
     case measure => simp [intOf]; omega
    ·obtain rfl : j = m := by omega
     go_wp2
     go_roundw
     case rel => exact ⟨k + 1, by omega, by go_num, Lib.hid (by rw [← HE.out]; exact hown2.out), hbx⟩
     case measure => simp [intOf]; omega
  ·obtain rfl : k = t.vars.length := by omega
   have hg := k_gotFs_own hown.out (by have := alN_len HD.out t.vars.length (Nat.le_refl _); omega)
   have Hg := Lib.hid hg
   clear hg
   go_wp2
   go_ret
   exact ⟨⟨_, rfl, Hg.out⟩, hbel⟩

/-- Some of the first facts. -/
noncomputable def lmF (t : Tsk) (s : List Int) (k : Nat) : List (Int × Int) := ((alF t.vars).take k).filter (lmB t s)
def fac (l : List (Int × Int)) (k : Nat) : Int × Int := (fv l k, fx l k)
theorem fac_eq {l : List (Int × Int)} {k : Nat} (h : k < l.length) : l[k] = fac l k := by unfold fac fv fx; simp [List.getD, List.getElem?_eq_getElem h]
theorem fac_mem {l : List (Int × Int)} {k : Nat} (h : k < l.length) : fac l k ∈ l := by rw [← fac_eq h]; exact List.getElem_mem h
theorem lmF_yes {t : Tsk} {s : List Int} {k : Nat} (h : k < (alF t.vars).length) (hb : lmB t s (fac (alF t.vars) k) = true) : lmF t s (k + 1) = lmF t s k ++ [fac (alF t.vars) k] := by
 unfold lmF
 rw [← List.take_append_getElem h, List.filter_append, fac_eq h]
 simp [hb]
theorem lmF_no {t : Tsk} {s : List Int} {k : Nat} (h : k < (alF t.vars).length) (hb : lmB t s (fac (alF t.vars) k) = false) : lmF t s (k + 1) = lmF t s k := by
 unfold lmF
 rw [← List.take_append_getElem h, List.filter_append, fac_eq h]
 simp [hb]
theorem lmF_len {t : Tsk} {s : List Int} {k : Nat} : (lmF t s k).length ≤ k := by
 unfold lmF
 have h1 := List.length_filter_le (lmB t s) ((alF t.vars).take k)
 have h2 := List.length_take_le k (alF t.vars)
 omega
theorem lmF_all {t : Tsk} {s : List Int} : lmF t s (alF t.vars).length = lmks t s := by unfold lmF lmks; rw [List.take_length]
def FacRet (t : Tsk) (s : List Int) (e : Ending) (w' : World) : Prop := ∃ v, e = .returned (.tuple #[v, erV (lmC t s)]) ∧ GotFs w' v (lmL t s)

set_option maxRecDepth 100000 in
set_option maxHeartbeats 8000000 in
theorem lfacts_any (t : Tsk) (q : LiesF) (G : Nat) (s : List Int) (AS : Option Addr) (cs : Nat) (w : World) (hF : FindAt w G t q) (hs : IntsAt w w.heap.size AS s) (hr : Right t) :
  Calls Tryz.prog 31 #[.pointer (some ⟨G, 0, none⟩), .slice AS s.length cs] w fun e w' => FacRet t s e w' ∧ Below w.heap.size w w' := by
 have k1 := fun wx (hb : Below w.heap.size w wx) => k_proper_any t.vars s q.av AS q.cv cs wx ((hF.up hb).vars) (hs.up hb)
 have k2 : ∀ wx, Below w.heap.size w wx → stB t.vars s = true → Calls Tryz.prog 64 #[.pointer (some ⟨G, 0, none⟩), .slice AS s.length cs, .agg #[.int .i64 (-1), .int .i64 (-1)]] wx fun e w' => ReaRet t s noF wx e w' ∧ Below wx.heap.size wx w' := fun wx hb hst => reached_any t q G s AS cs noF wx (hF.up hb) (hs.up hb) hst hr
 have k3 := fun (a : Int × Int) wx (hb : Below w.heap.size w wx) (hst : stB t.vars s = true) => reached_any t q G s AS cs a wx (hF.up hb) (hs.up hb) hst hr
 have k4 := fun (g : Nat) (rb : Nat → Nat) (a : Int × Int) wx (hb : Below w.heap.size w wx) (hm : MatIs wx g t.vars.length rb (Ld t) (rcB t s a)) => has_any t t.goal (rcB t s a) (some ⟨g, 0, none⟩) q.ag t.vars.length q.cg g rb wx (fun _ => rfl) hm ((hF.up hb).goal) (rng_fa hr.goal)
 have k5 := fun wx (hb : Below w.heap.size w wx) => lall_any t q G wx (hF.up hb) hr
 have HR := Lib.hid hr
 obtain ⟨av, ag, ac, au, cv, cg, cc, cu⟩ := q
 obtain ⟨q0, q1, q2, q3, q4, q5, q6, q7, q8⟩ := hF
 dsimp only at *
 clear q3 q4 q5 q6 q7 q8 hr
 have K1 := Lib.hid k1
 have K2 := Lib.hid k2
 have K3 := Lib.hid k3
 have K4 := Lib.hid k4
 have K5 := Lib.hid k5
 clear k1 k2 k3 k4 k5
 obtain ⟨inf, hi, iz0, iz1, iz2⟩ := info_parts infoF8
 cases e1 : stB t.vars s
 ·have Hc : Hid (lmC t s = 2) := Lib.hid (by unfold lmC; rw [e1]; rfl)
  rw [e1] at K1
  clear K2 K3 K4 K5
  go_enter Tryz.func31, Tryz.ntmps31
  go_wp2_with fail; refine (K1.out _ (by exact bel)).mono ?_; rintro e w1 ⟨rfl, hb1⟩; obtain ⟨hc1, hf1, hz1, hlt1, hle1⟩ := cellsIf hb1 (by (try simp); exact rfl); (try have := s00 w w1); (try have := s01 w w1); (try have := s02 w w1); (try have := s10 w w1); (try have := s11 w w1); (try have := s12 w w1); (try have := s20 w w1); (try have := s21 w w1); (try have := s22 w w1)
  go_wp2
  refine bodyPost_ret (v := .tuple #[.slice none 0 0, .iface 49 (.int .i64 2)]) (by simp [results, Tryz.results31, go_sem]) rfl ⟨⟨.slice none 0 0, by rw [Hc.out]; rfl, by unfold lmL; rw [Hc.out]; exact gotFs_nil _⟩, by exact bel⟩
 have Hst := Lib.hid e1
 rw [e1] at K1
 cases e2 : hsM t.goal (rcB t s noF)
 ·have Hc : Hid (lmC t s = 3) := Lib.hid (by unfold lmC; rw [e1, e2]; rfl)
  have He2 := Lib.hid e2
  clear K3 K5 e1 e2
  go_enter Tryz.func31, Tryz.ntmps31
  go_wp2_with fail
  refine (K1.out _ (by exact bel)).mono ?_
  rintro e w1 ⟨rfl, hb1⟩
  have y1 := (hb1.cell (p := ⟨G, 1, none⟩) q0).trans q2
  have z1 := hb1.size
  go_wp2_with fail
  refine wp_region_G 8 (fun w' => ∀ b o, w'.cell? ⟨b, o, none⟩ = if b < w1.heap.size then w1.cell? ⟨b, o, none⟩ else hidC w' b o) (by kernel_rfl) (cif (B := w1.heap.size) (W := w1) (Below.refl _ _).drew) ?_
  intro hG0
  refine wpS1 0 hG0 ?_; intro hG1; clear hG0
  refine wpS1 1 hG1 ?_; intro hG2; clear hG1
  refine wpS1 4 hG2 ?_; intro hG3; clear hG2
  refine wpS1 5 hG3 ?_; intro hG4; clear hG3
  refine wpS1 6 hG4 ?_; intro hG5; clear hG4
  refine wpS2 7 hG5 ?_; intro hG6; clear hG5
  refine wpAnyG_ready (rs := [2]) (by kernel_rfl) (by simp) (AllG.cons rfl hG6 (fun K hK => ?_) AllG.nil)
  (go_simp; go_at_call 65; refine (nothing_any _).mono ?_; rintro e w2 ⟨rfl, hb2⟩; have hb12 : Below w1.heap.size w1 w2 := (Below.refl _ _).drew.trans hb2; have z2 := hb12.size; clear hb2)
  refine hK.out _ _ (Or.inr (cif hb12)) (fun hG7 => wpN ?_); clear hK hG6
  refine wpAnyG_ready (rs := [3]) (by kernel_rfl) (by simp) (AllG.cons rfl hG7 (fun K hK => ?_) AllG.nil)
  (go_simp; go_at_call 64; refine (K2.out _ (hb1.trans (hb12.mono z1)) Hst.out).mono ?_; rintro e w3 ⟨⟨g, rb, rfl, hmat⟩, hb3⟩; have hb13 : Below w1.heap.size w1 w3 := hb12.trans (hb3.mono z2); have z3 := hb13.size; have HM := Lib.hid hmat; clear hmat)
  refine hK.out _ _ (Or.inr (cif hb13)) (fun hG8 => wpN ?_); clear hK hG7
  refine wpAnyG_ready (rs := [8]) (by kernel_rfl) (by simp) (AllG.cons rfl hG8 (fun K hK => ?_) AllG.nil)
  (go_simp; go_at_call 66; refine (K4.out g rb noF _ (hb1.trans (hb13.mono z1)) HM.out).mono ?_; rintro e w4 ⟨rfl, hb4⟩; have hb14 : Below w1.heap.size w1 w4 := hb13.trans (hb4.mono z3); rw [He2.out])
  refine hK.out _ _ (Or.inl rfl) (fun hG9 => wpN ?_); clear hK hG8
  refine wpS1 9 hG9 ?_; intro hG10; clear hG9
  refine wpS1 10 hG10 ?_; intro hG11; clear hG10
  refine wpAnyG_done (by kernel_rfl) ?_ _; clear hG11
  go_wp2
  refine bodyPost_ret (v := .tuple #[.slice none 0 0, .iface 49 (.int .i64 3)]) (by simp [results, Tryz.results31, go_sem]) rfl ⟨⟨.slice none 0 0, by rw [Hc.out]; rfl, by unfold lmL; rw [Hc.out]; exact gotFs_nil _⟩, hb1.trans (hb14.mono z1)⟩
 have Hc : Hid (lmC t s = 0) := Lib.hid (by unfold lmC; rw [e1, e2]; rfl)
 have He2 := Lib.hid e2
 clear e1 e2
 go_enter Tryz.func31, Tryz.ntmps31
 go_wp2_with fail
 refine (K1.out _ (by exact bel)).mono ?_
 rintro e w1 ⟨rfl, hb1⟩
 have y1 := (hb1.cell (p := ⟨G, 1, none⟩) q0).trans q2
 have z1 := hb1.size
 go_wp2_with fail
 refine wp_region_G 8 (fun w' => ∀ b o, w'.cell? ⟨b, o, none⟩ = if b < w1.heap.size then w1.cell? ⟨b, o, none⟩ else hidC w' b o) (by kernel_rfl) (cif (B := w1.heap.size) (W := w1) (Below.refl _ _).drew) ?_
 intro hG0
 refine wpS1 0 hG0 ?_; intro hG1; clear hG0
 refine wpS1 1 hG1 ?_; intro hG2; clear hG1
 refine wpS1 4 hG2 ?_; intro hG3; clear hG2
 refine wpS1 5 hG3 ?_; intro hG4; clear hG3
 refine wpS1 6 hG4 ?_; intro hG5; clear hG4
 refine wpS2 7 hG5 ?_; intro hG6; clear hG5
 refine wpAnyG_ready (rs := [2]) (by kernel_rfl) (by simp) (AllG.cons rfl hG6 (fun K hK => ?_) AllG.nil)
 (go_simp; go_at_call 65; refine (nothing_any _).mono ?_; rintro e w2 ⟨rfl, hb2⟩; have hb12 : Below w1.heap.size w1 w2 := (Below.refl _ _).drew.trans hb2; have z2 := hb12.size; clear hb2)
 refine hK.out _ _ (Or.inr (cif hb12)) (fun hG7 => wpN ?_); clear hK hG6
 refine wpAnyG_ready (rs := [3]) (by kernel_rfl) (by simp) (AllG.cons rfl hG7 (fun K hK => ?_) AllG.nil)
 (go_simp; go_at_call 64; refine (K2.out _ (hb1.trans (hb12.mono z1)) Hst.out).mono ?_; rintro e w3 ⟨⟨g, rb, rfl, hmat⟩, hb3⟩; have hb13 : Below w1.heap.size w1 w3 := hb12.trans (hb3.mono z2); have z3 := hb13.size; have HM := Lib.hid hmat; clear hmat)
 refine hK.out _ _ (Or.inr (cif hb13)) (fun hG8 => wpN ?_); clear hK hG7
 refine wpAnyG_ready (rs := [8]) (by kernel_rfl) (by simp) (AllG.cons rfl hG8 (fun K hK => ?_) AllG.nil)
 (go_simp; go_at_call 66; refine (K4.out g rb noF _ (hb1.trans (hb13.mono z1)) HM.out).mono ?_; rintro e w4 ⟨rfl, hb4⟩; have hb14 : Below w1.heap.size w1 w4 := hb13.trans (hb4.mono z3); rw [He2.out])
 refine hK.out _ _ (Or.inl rfl) (fun hG9 => wpN ?_); clear hK hG8
 refine wpS1 9 hG9 ?_; intro hG10; clear hG9
 refine wpS1 10 hG10 ?_; intro hG11; clear hG10
 refine wpAnyG_done (by kernel_rfl) ?_ _; clear hG11
 have hbw4 := hb1.trans (hb14.mono z1)
 have z4 := hbw4.size
 clear y1 z1 hb1 hb12 hb13 hb14 z2 z3 hb3 hb4 HM K1 K2
 go_wp2_with fail
 refine (K5.out _ hbw4).mono ?_
 rintro e w5 ⟨⟨v5, rfl, A5, c5, rfl, _, hf5⟩, hb5⟩
 have hbw5 := hbw4.trans (hb5.mono z4)
 have z5 := hbw5.size
 obtain ⟨F, hFe⟩ : ∃ F, F = alF t.vars := ⟨_, rfl⟩
 rw [← hFe] at hf5
 rw [← hFe]
 have HFe := Lib.hid hFe
 have Hf5 := Lib.hid hf5
 have hFl : F.length ≤ 10000 := by rw [hFe]; have := alN_len HR.out.dom t.vars.length (Nat.le_refl _); have := HR.out.nv; show (alN _ _).length ≤ _; omega
 clear hf5 hb5 hbw4 z4 hFe
 go_wp2
 go_loopw [6, 37] (fun v i wr => ∃ (k : Nat), k ≤ F.length ∧ i = .int .i64 k ∧ Hid (wr.ownsRow w5.heap.size 75 2 v (lmF t s k).length (fcl (lmF t s k))) ∧ Below w5.heap.size w5 wr) (fun _ i _ => F.length - (intOf i).toNat)
 case atStart => exact ⟨0, by omega, rfl, Lib.hid (World.ownsRow_nil _ _ _ _), Below.refl _ _⟩
 case round =>
  obtain ⟨k, hk, rfl, hown, hbel⟩ := hrel
  have hbz := hbel.size
  have hbwr : Below w.heap.size w wr := hbw5.trans (hbel.mono z5)
  by_cases hlt : k < F.length
  ·obtain ⟨b1, o1, ea, hb1, hc1⟩ := Hf5.out.at_ hlt
   subst ea
   have d1 := (hbel.cell (p := ⟨b1, o1 + k * 2, none⟩) hb1).trans (hc1 k hlt).1
   have d2 := (hbel.cell (p := ⟨b1, o1 + k * 2 + 1, none⟩) hb1).trans (hc1 k hlt).2
   have g1 : b1 < wr.heap.size := by omega
   have hfm := mem_alF.1 (show fac F k ∈ alF t.vars by rw [← HFe.out]; exact fac_mem hlt)
   obtain ⟨v, hv⟩ : ∃ v : Nat, fv F k = (v : Int) := ⟨(fv F k).toNat, by have := hfm.1; simp only [fac] at this; omega⟩
   obtain ⟨x, hx⟩ : ∃ x : Nat, fx F k = (x : Int) := ⟨(fx F k).toNat, by have := hfm.2.2.1; simp only [fac] at this; omega⟩
   have hfk : fac F k = ((v : Int), (x : Int)) := by unfold fac; rw [hv, hx]
   have hvn : v < t.vars.length := by have := hfm.2.1; simp only [fac, hv] at this; omega
   have hsl : v < s.length := by have := stB_len Hst.out; omega
   obtain ⟨b2, o2, eb, hb2, hc2⟩ := hs.at_ hsl
   subst eb
   have d3 := (hbwr.cell (p := ⟨b2, o2 + v, none⟩) hb2).trans (hc2 v hsl)
   have hbwz := hbwr.size
   have g2 : b2 < wr.heap.size := by omega
   rw [hv] at d1
   rw [hx] at d2
   have hlen := lmF_len (t := t) (s := s) (k := k)
   have Hfk := Lib.hid hfk
   have y0 := (hbwr.cell (p := ⟨G, 1, none⟩) q0).trans q2
   have gG : G < wr.heap.size := by omega
   have k0 : (0 : Int) ≤ (k : Int) := by omega
   have k1 : (k : Int) < (F.length : Int) := by omega
   have v0 : (0 : Int) ≤ (v : Int) := by omega
   have v1 : (v : Int) < (s.length : Int) := by omega
   have Hyes := Lib.hid (fun h => lmF_yes (t := t) (s := s) (k := k) (by rw [← HFe.out]; exact hlt) h)
   have Hno := Lib.hid (fun h => lmF_no (t := t) (s := s) (k := k) (by rw [← HFe.out]; exact hlt) h)
   rw [← HFe.out, hfk] at Hyes Hno
   clear hc1 hc2 hfm hv hx hfk
   obtain ⟨y, hy⟩ : ∃ y, y = nth s v := ⟨_, rfl⟩
   rw [← hy] at d3
   by_cases e3 : y = (x : Int)
   ·have Hs := Lib.hid (Hno.out (by unfold lmB; simp [← hy, e3]))
    subst e3
    clear hy Hyes Hno
    go_wp2_with fail
    refine wp_region_G 19 (fun w' => ∀ b o, w'.cell? ⟨b, o, none⟩ = if b < wr.heap.size + 1 then (wr.alloc (.cells #[.int .i64 (v : Int), .int .i64 (x : Int)] 75)).cell? ⟨b, o, none⟩ else hidC w' b o) (by kernel_rfl) (cif (B := wr.heap.size + 1) (Below.refl _ _).drew) ?_
    intro hG0
    refine wpS1 0 hG0 ?_; intro hG1; clear hG0
    refine wpS1 1 hG1 ?_; intro hG2; clear hG1
    refine wpS2 2 hG2 ?_; intro hG3; clear hG2
    refine wpS1 3 hG3 ?_; intro hG4; clear hG3
    refine wpS2 4 hG4 ?_; intro hG5; clear hG4
    refine wpS1 5 hG5 ?_; intro hG6; clear hG5
    refine wpS2 6 hG6 ?_; intro hG7; clear hG6
    refine wpS1 7 hG7 ?_; intro hG8; clear hG7
    refine wpS3 8 (.bool false) hG8 ?_; intro hG9; clear hG8
    refine wpS0 9 hG9 ?_; intro hG10; clear hG9
    refine wpS0 10 hG10 ?_; intro hG11; clear hG10
    refine wpS0 11 hG11 ?_; intro hG12; clear hG11
    refine wpS0 12 hG12 ?_; intro hG13; clear hG12
    refine wpS0 13 hG13 ?_; intro hG14; clear hG13
    refine wpS0 14 hG14 ?_; intro hG15; clear hG14
    refine wpS0 15 hG15 ?_; intro hG16; clear hG15
    refine wpS0 16 hG16 ?_; intro hG17; clear hG16
    refine wpS0 17 hG17 ?_; intro hG18; clear hG17
    refine wpS0 18 hG18 ?_; intro hG19; clear hG18
    refine wpAnyG_ready (rs := [19]) (by kernel_rfl) (by simp) (AllG.cons rfl hG19 (fun K hK => ?_) AllG.nil)
    (go_simp)
    refine hK.out _ _ (Or.inl rfl) (fun hG20 => wpN ?_); clear hK hG19
    refine wpAnyG_done (by kernel_rfl) ?_ _; clear hG20
    go_wp2
    go_roundw
    case rel => exact ⟨k + 1, by omega, by go_num, Lib.hid (by rw [Hs.out]; exact own_below hown.out (((Below.refl _ _).alloc (Nat.le_refl _) _).drew)), (hbel.alloc hbz _).drew⟩
    case measure => simp [intOf]; omega
   ·have Hy := Lib.hid hy
    clear hy
    cases e4 : hsM t.goal (rcB t s ((v : Int), (x : Int)))
    ·have Hs := Lib.hid (Hyes.out (by unfold lmB; rw [e4]; simp [← Hy.out, e3]))
     have He4 := Lib.hid e4
     clear e4 Hyes Hno
     go_wp2_with fail
     refine wp_region_G 17 (fun w' => ∀ b o, w'.cell? ⟨b, o, none⟩ = if b < wr.heap.size + 1 then (wr.alloc (.cells #[.int .i64 (v : Int), .int .i64 (x : Int)] 75)).cell? ⟨b, o, none⟩ else hidC w' b o) (by kernel_rfl) (cif (B := wr.heap.size + 1) (Below.refl _ _).drew) ?_
     intro hG0
     refine wpS1 0 hG0 ?_; intro hG1; clear hG0
     refine wpS1 1 hG1 ?_; intro hG2; clear hG1
     refine wpS2 2 hG2 ?_; intro hG3; clear hG2
     refine wpS1 3 hG3 ?_; intro hG4; clear hG3
     refine wpS2 4 hG4 ?_; intro hG5; clear hG4
     refine wpS1 5 hG5 ?_; intro hG6; clear hG5
     refine wpS2 6 hG6 ?_; intro hG7; clear hG6
     refine wpS1 7 hG7 ?_; intro hG8; clear hG7
     refine wpS3 8 (.bool true) hG8 ?_; intro hG9; clear hG8
     refine wpS1 9 hG9 ?_; intro hG10; clear hG9
     refine wpS1 10 hG10 ?_; intro hG11; clear hG10
     refine wpS2 11 hG11 ?_; intro hG12; clear hG11
     refine wpS1 13 hG12 ?_; intro hG13; clear hG12
     refine wpS1 14 hG13 ?_; intro hG14; clear hG13
     refine wpS1 15 hG14 ?_; intro hG15; clear hG14
     refine wpS2 16 hG15 ?_; intro hG16; clear hG15
     refine wpAnyG_ready (rs := [12]) (by kernel_rfl) (by simp) (AllG.cons rfl hG16 (fun K hK => ?_) AllG.nil)
     refine (if_pos (by rfl)).mpr ?_
     (go_simp; go_at_call 64; refine (K3.out ((v : Int), (x : Int)) _ (hbwr.trans (((Below.refl _ _).alloc (Nat.le_refl _) _).drew.mono hbwr.size)) Hst.out).mono ?_; rintro e w7 ⟨⟨g7, rb7, rfl, hm7⟩, hb7⟩; have hb7A : Below (wr.heap.size + 1) (wr.alloc (.cells #[.int .i64 (v : Int), .int .i64 (x : Int)] 75)) w7 := (Below.refl _ _).drew.trans (hb7.mono (by show _ ≤ (wr.alloc _).heap.size; simp)); have z7 : wr.heap.size + 1 ≤ w7.heap.size := (by have := hb7A.size; simpa using this); have HM7 := Lib.hid hm7; have hbr7 : Below wr.heap.size wr w7 := ((Below.refl _ _).alloc (Nat.le_refl _) _).trans (hb7A.mono (Nat.le_succ _)); clear hm7 hb7)
     refine hK.out _ _ (Or.inr (cif hb7A)) (fun hG17 => wpN ?_); clear hK hG16
     refine wpAnyG_ready (rs := [17]) (by kernel_rfl) (by simp) (AllG.cons rfl hG17 (fun K hK => ?_) AllG.nil)
     refine (if_pos (by rfl)).mpr ?_
     (go_simp; go_at_call 66; refine (K4.out g7 rb7 ((v : Int), (x : Int)) _ (hbwr.trans (hbr7.mono hbwr.size)) HM7.out).mono ?_; rintro e w8 ⟨rfl, hb8⟩; have hb8A : Below (wr.heap.size + 1) (wr.alloc (.cells #[.int .i64 (v : Int), .int .i64 (x : Int)] 75)) w8 := hb7A.trans (hb8.mono z7); have z8 : wr.heap.size + 1 ≤ w8.heap.size := (by have := hb8A.size; simpa using this); rw [He4.out])
     refine hK.out _ _ (Or.inl rfl) (fun hG18 => wpN ?_); clear hK hG17
     refine wpS1 18 hG18 ?_; intro hG19; clear hG18
     refine wpS1 19 hG19 ?_; intro hG20; clear hG19
     refine wpAnyG_done (by kernel_rfl) ?_ _; clear hG20
     have s0 : w8.cell? ⟨wr.heap.size, 0, none⟩ = some (.int .i64 (v : Int)) := (hb8A.cell (p := ⟨wr.heap.size, 0, none⟩) (Nat.lt_succ_self _)).trans (by simp)
     have s1 : w8.cell? ⟨wr.heap.size, 1, none⟩ = some (.int .i64 (x : Int)) := (hb8A.cell (p := ⟨wr.heap.size, 1, none⟩) (Nat.lt_succ_self _)).trans (by simp)
     have s2 : wr.heap.size < w8.heap.size := z8
     have hbr8 : Below wr.heap.size wr w8 := ((Below.refl _ _).alloc (Nat.le_refl _) _).trans (hb8A.mono (Nat.le_succ _))
     have hbx8 : Below w5.heap.size w5 w8 := hbel.trans (hbr8.mono hbz)
     go_wp2_with (at_builtin; refine wpList_push rfl _ _ 23 rfl w5.heap.size 75 inf (.agg #[.int .i64 0, .int .i64 0]) 2 16 undF8 hi iz0 iz1 iz2 rfl (by decide) (by decide) u6 (lmF t s k).length (fcl (lmF t s k)) rfl ((own_below hown.out hbr8).alloc _) w8.heap.size 75 [.int .i64 (v : Int), .int .i64 (x : Int)] rfl rfl (heap_alloc_new _ _) (two_one rfl rfl) (by omega) (by first | omega | (simp; omega)) (B := w5.heap.size) (W := w5) (hbx8.alloc (by omega) _) (Nat.le_refl _) ?_; intro v' w9 hown' hgrow hat hbw9; have Hown := Lib.hid hown'; clear hown' hgrow hat)
     go_roundw
     case rel => exact ⟨k + 1, by omega, by go_num, Lib.hid (by rw [Hs.out, List.length_append, fcl_app]; exact Hown.out), hbw9⟩
     case measure => simp [intOf]; omega
    ·have Hs := Lib.hid (Hno.out (by unfold lmB; rw [e4]; simp))
     have He4 := Lib.hid e4
     clear e4 Hyes Hno
     go_wp2_with fail
     refine wp_region_G 17 (fun w' => ∀ b o, w'.cell? ⟨b, o, none⟩ = if b < wr.heap.size + 1 then (wr.alloc (.cells #[.int .i64 (v : Int), .int .i64 (x : Int)] 75)).cell? ⟨b, o, none⟩ else hidC w' b o) (by kernel_rfl) (cif (B := wr.heap.size + 1) (Below.refl _ _).drew) ?_
     intro hG0
     refine wpS1 0 hG0 ?_; intro hG1; clear hG0
     refine wpS1 1 hG1 ?_; intro hG2; clear hG1
     refine wpS2 2 hG2 ?_; intro hG3; clear hG2
     refine wpS1 3 hG3 ?_; intro hG4; clear hG3
     refine wpS2 4 hG4 ?_; intro hG5; clear hG4
     refine wpS1 5 hG5 ?_; intro hG6; clear hG5
     refine wpS2 6 hG6 ?_; intro hG7; clear hG6
     refine wpS1 7 hG7 ?_; intro hG8; clear hG7
     refine wpS3 8 (.bool true) hG8 ?_; intro hG9; clear hG8
     refine wpS1 9 hG9 ?_; intro hG10; clear hG9
     refine wpS1 10 hG10 ?_; intro hG11; clear hG10
     refine wpS2 11 hG11 ?_; intro hG12; clear hG11
     refine wpS1 13 hG12 ?_; intro hG13; clear hG12
     refine wpS1 14 hG13 ?_; intro hG14; clear hG13
     refine wpS1 15 hG14 ?_; intro hG15; clear hG14
     refine wpS2 16 hG15 ?_; intro hG16; clear hG15
     refine wpAnyG_ready (rs := [12]) (by kernel_rfl) (by simp) (AllG.cons rfl hG16 (fun K hK => ?_) AllG.nil)
     refine (if_pos (by rfl)).mpr ?_
     (go_simp; go_at_call 64; refine (K3.out ((v : Int), (x : Int)) _ (hbwr.trans (((Below.refl _ _).alloc (Nat.le_refl _) _).drew.mono hbwr.size)) Hst.out).mono ?_; rintro e w7 ⟨⟨g7, rb7, rfl, hm7⟩, hb7⟩; have hb7A : Below (wr.heap.size + 1) (wr.alloc (.cells #[.int .i64 (v : Int), .int .i64 (x : Int)] 75)) w7 := (Below.refl _ _).drew.trans (hb7.mono (by show _ ≤ (wr.alloc _).heap.size; simp)); have z7 : wr.heap.size + 1 ≤ w7.heap.size := (by have := hb7A.size; simpa using this); have HM7 := Lib.hid hm7; have hbr7 : Below wr.heap.size wr w7 := ((Below.refl _ _).alloc (Nat.le_refl _) _).trans (hb7A.mono (Nat.le_succ _)); clear hm7 hb7)
     refine hK.out _ _ (Or.inr (cif hb7A)) (fun hG17 => wpN ?_); clear hK hG16
     refine wpAnyG_ready (rs := [17]) (by kernel_rfl) (by simp) (AllG.cons rfl hG17 (fun K hK => ?_) AllG.nil)
     refine (if_pos (by rfl)).mpr ?_
     (go_simp; go_at_call 66; refine (K4.out g7 rb7 ((v : Int), (x : Int)) _ (hbwr.trans (hbr7.mono hbwr.size)) HM7.out).mono ?_; rintro e w8 ⟨rfl, hb8⟩; have hb8A : Below (wr.heap.size + 1) (wr.alloc (.cells #[.int .i64 (v : Int), .int .i64 (x : Int)] 75)) w8 := hb7A.trans (hb8.mono z7); have z8 : wr.heap.size + 1 ≤ w8.heap.size := (by have := hb8A.size; simpa using this); rw [He4.out])
     refine hK.out _ _ (Or.inl rfl) (fun hG18 => wpN ?_); clear hK hG17
     refine wpS1 18 hG18 ?_; intro hG19; clear hG18
     refine wpS1 19 hG19 ?_; intro hG20; clear hG19
     refine wpAnyG_done (by kernel_rfl) ?_ _; clear hG20
     have hbr8 : Below wr.heap.size wr w8 := ((Below.refl _ _).alloc (Nat.le_refl _) _).trans (hb8A.mono (Nat.le_succ _))
     go_wp2
     go_roundw
     case rel => exact ⟨k + 1, by omega, by go_num, Lib.hid (by rw [Hs.out]; exact own_below hown.out hbr8), hbel.trans (hbr8.mono hbz)⟩
     case measure => simp [intOf]; omega
  ·obtain rfl : k = F.length := by omega
   have hg := k_gotFs_own hown.out (by have := lmF_len (t := t) (s := s) (k := F.length); omega)
   have Hg : Hid (GotFs wr u6 (lmL t s)) := Lib.hid (by unfold lmL; rw [if_pos Hc.out, ← lmF_all, ← HFe.out]; exact hg)
   obtain ⟨Ax, cx, hux⟩ := own_shape hown.out
   subst hux
   clear hg hown
   go_wp2
   refine bodyPost_ret (v := .tuple #[.slice Ax (lmF t s F.length).length cx, .nilIface]) (by simp [results, Tryz.results31, go_sem]) rfl ⟨⟨_, by rw [Hc.out]; rfl, Hg.out⟩, hbwr⟩

end Go.Proofs.YtaampjhdgeoicaaGreat
