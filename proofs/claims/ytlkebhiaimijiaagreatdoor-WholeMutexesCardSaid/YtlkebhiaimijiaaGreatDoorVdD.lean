/- container/heap on certify.entries: down, Push, Pop, walked. -/
import Derived.Test.YtlkebhiaimijiaaGreatDoorNgO
namespace Go.Proofs.YtlkebhiaimijiaaGreatDoor
set_option linter.unusedSimpArgs false
set_option linter.unusedVariables false
open Go Go.RowKit
set_option linter.unusedVariables false

theorem leE_refl (a : En) : leE a a := by unfold leE lsE; omega

set_option maxRecDepth 20000 in
set_option maxHeartbeats 16000000 in
theorem hdn_any {w : World} {base H : Nat} {A : Option Addr} {c : Nat} {es : List En} (h : HpA w base H A c es) (n : Nat) (hn : n + 1 = es.length) (hu : DnI es n 0) (hl : es.length ≤ 100000000) :
  Calls Tryz.prog 67 #[hpV H, .int .i64 0, .int .i64 n] w fun e w' => (∃ b, e = .returned (.bool b)) ∧ ∃ es', HpR base H A c es w es' w' ∧ HpN es' n ∧ ent es' n = ent es n := by
 have HH := Lib.hid (HpR.refl h)
 have HU := Lib.hid hu
 have HN := Lib.hid hn
 have hl2 : n ≤ 100000000 := by omega
 clear h hu hn
 go_enter Tryz.func67, Tryz.ntmps67
 go_wp2_with fail
 go_loopw [7] (fun v7 wr => ∃ (i : Nat) (es1 : List En), v7 = .int .i64 i ∧ (i < n ∨ i = 0) ∧ Hid (HpR base H A c es w es1 wr) ∧ Hid (DnI es1 n i) ∧ Hid (ent es1 n = ent es n)) (fun v _ => n - (RowKit.intOf v).toNat)
 case atStart => exact ⟨0, es, rfl, .inr rfl, HH, HU, Lib.hid rfl⟩
 case round =>
  clear HH HU
  obtain ⟨i, es1, rfl, hi, HR, HU, HL⟩ := hrel
  obtain ⟨wt, rfl⟩ : ∃ wt : World, wt = wr := ⟨_, rfl⟩
  obtain ⟨j1, hj1⟩ : ∃ j1, j1 = 2 * i + 1 := ⟨_, rfl⟩
  have HJ1 := Lib.hid hj1
  have hin : i ≤ n := by omega
  have hpr : 2 * (i : Int) + 1 = (j1 : Int) := by omega
  by_cases h1 : j1 < n
  ·obtain ⟨j2, hj2⟩ : ∃ j2, j2 = j1 + 1 := ⟨_, rfl⟩
   have HJ2 := Lib.hid hj2
   have hpr2 : (j1 : Int) + 1 = (j2 : Int) := by omega
   have hle : es1.length = n + 1 := by rw [HR.out.len, HN.out]
   have HLE := Lib.hid hle
   have hin1 : i < n := by omega
   clear hi
   by_cases h2 : j2 < n
   ·have KL := Lib.hid (eless_any HR.out.hp j2 j1 (by omega) (by omega) (by omega))
    have hm := meth_less (HR.out.hp.box.cell 0 (.slice A es1.length c) rfl)
    clear hle hj1 hj2
    go_wp2_with fail
    refine KL.out.mono ?_
    rintro e w2 ⟨rfl, hb2⟩
    have HR2 := Lib.hid (HR.out.up hb2)
    clear hb2 KL hm
    by_cases q : lsE (ent es1 j2) (ent es1 j1)
    ·rw [decide_eq_true q]
     have HMIN := Lib.hid (show ∀ c, 0 < c → c < n → (c - 1) / 2 = i → leE (ent es1 j2) (ent es1 c) from fun c h0 hc hci => by
      have h5 := HJ1.out; have h6 := HJ2.out
      have : c = j1 ∨ c = j2 := by omega
      rcases this with rfl | rfl
      ·exact leE_of q
      ·exact leE_refl _)
     have HPAR := Lib.hid (show 0 < j2 ∧ (j2 - 1) / 2 = i by have h5 := HJ1.out; have h6 := HJ2.out; omega)
     have hji : i < j2 := by have h5 := HJ1.out; have h6 := HJ2.out; omega
     clear q
     have KM := Lib.hid (eless_any HR2.out.hp j2 i (by rw [HLE.out]; omega) (by rw [HLE.out]; omega) (by rw [HLE.out]; omega))
     have hm := meth_less (HR2.out.hp.box.cell 0 (.slice A es1.length c) rfl)
     go_wp2_with fail
     refine KM.out.mono ?_
     rintro e w4 ⟨rfl, hb4⟩
     have HR4 := Lib.hid (HR2.out.up hb4)
     clear hb4 KM hm
     by_cases q2 : lsE (ent es1 j2) (ent es1 i)
     ·rw [decide_eq_true q2]
      have KS := Lib.hid (eswap_any HR4.out.hp i j2 (by rw [HLE.out]; omega) (by rw [HLE.out]; omega) (by rw [HLE.out]; omega))
      have hm := meth_swap (HR4.out.hp.box.cell 0 (.slice A es1.length c) rfl)
      have HU4 := Lib.hid (dn_step HU.out HPAR.out.1 HPAR.out.2 h2 (by rw [HLE.out]; omega) q2 HMIN.out)
      have HL4 := Lib.hid (show ent (swL es1 i j2) n = ent es n by
       rw [sw_at (by rw [HLE.out]; omega) (by rw [HLE.out]; omega), if_neg (by omega), if_neg (by omega)]; exact HL.out)
      clear q2
      go_wp2_with fail
      refine KS.out.mono ?_
      rintro e w5 ⟨rfl, hh5, hk5⟩
      have HR5 := Lib.hid (HR4.out.sw (i := i) (j := j2) (by rw [← HN.out]; omega) (by rw [← HN.out]; omega) hh5 hk5)
      clear hh5 hk5 KS hm
      go_wp2
      go_roundw
      case rel => exact ⟨j2, swL es1 i j2, by first | rfl | simp [hpr] | simp [hpr, hpr2], .inl h2, HR5, HU4, HL4⟩
      case measure => simp [RowKit.intOf]; omega
     ·rw [decide_eq_false q2]
      have HF := Lib.hid (dn_end HU.out q2 HMIN.out)
      clear q2
      go_wp2
      refine bodyPost_ret (v := .bool (decide (0 < i))) (by simp [results, Tryz.results67, go_sem]) rfl ⟨⟨_, rfl⟩, es1, HR4.out, HF.out, HL.out⟩
    ·rw [decide_eq_false q]
     have HMIN := Lib.hid (show ∀ c, 0 < c → c < n → (c - 1) / 2 = i → leE (ent es1 j1) (ent es1 c) from fun c h0 hc hci => by
      have h5 := HJ1.out; have h6 := HJ2.out
      have : c = j1 ∨ c = j2 := by omega
      rcases this with rfl | rfl
      ·exact leE_refl _
      ·exact q)
     have HPAR := Lib.hid (show 0 < j1 ∧ (j1 - 1) / 2 = i by have h5 := HJ1.out; omega)
     have hji : i < j1 := by have h5 := HJ1.out; omega
     clear q
     have KM := Lib.hid (eless_any HR2.out.hp j1 i (by rw [HLE.out]; omega) (by rw [HLE.out]; omega) (by rw [HLE.out]; omega))
     have hm := meth_less (HR2.out.hp.box.cell 0 (.slice A es1.length c) rfl)
     go_wp2_with fail
     refine KM.out.mono ?_
     rintro e w4 ⟨rfl, hb4⟩
     have HR4 := Lib.hid (HR2.out.up hb4)
     clear hb4 KM hm
     by_cases q2 : lsE (ent es1 j1) (ent es1 i)
     ·rw [decide_eq_true q2]
      have KS := Lib.hid (eswap_any HR4.out.hp i j1 (by rw [HLE.out]; omega) (by rw [HLE.out]; omega) (by rw [HLE.out]; omega))
      have hm := meth_swap (HR4.out.hp.box.cell 0 (.slice A es1.length c) rfl)
      have HU4 := Lib.hid (dn_step HU.out HPAR.out.1 HPAR.out.2 h1 (by rw [HLE.out]; omega) q2 HMIN.out)
      have HL4 := Lib.hid (show ent (swL es1 i j1) n = ent es n by
       rw [sw_at (by rw [HLE.out]; omega) (by rw [HLE.out]; omega), if_neg (by omega), if_neg (by omega)]; exact HL.out)
      clear q2
      go_wp2_with fail
      refine KS.out.mono ?_
      rintro e w5 ⟨rfl, hh5, hk5⟩
      have HR5 := Lib.hid (HR4.out.sw (i := i) (j := j1) (by rw [← HN.out]; omega) (by rw [← HN.out]; omega) hh5 hk5)
      clear hh5 hk5 KS hm
      go_wp2
      go_roundw
      case rel => exact ⟨j1, swL es1 i j1, by first | rfl | simp [hpr] | simp [hpr, hpr2], .inl h1, HR5, HU4, HL4⟩
      case measure => simp [RowKit.intOf]; omega
     ·rw [decide_eq_false q2]
      have HF := Lib.hid (dn_end HU.out q2 HMIN.out)
      clear q2
      go_wp2
      refine bodyPost_ret (v := .bool (decide (0 < i))) (by simp [results, Tryz.results67, go_sem]) rfl ⟨⟨_, rfl⟩, es1, HR4.out, HF.out, HL.out⟩
   ·have HMIN := Lib.hid (show ∀ c, 0 < c → c < n → (c - 1) / 2 = i → leE (ent es1 j1) (ent es1 c) from fun c h0 hc hci => by
     have h5 := HJ1.out; have h6 := HJ2.out
     have : c = j1 := by omega
     rw [this]; exact leE_refl _)
    have HPAR := Lib.hid (show 0 < j1 ∧ (j1 - 1) / 2 = i by have h5 := HJ1.out; omega)
    have hji : i < j1 := by have h5 := HJ1.out; omega
    have HR2 := Lib.hid HR.out
    clear hle hj1 hj2
    have KM := Lib.hid (eless_any HR2.out.hp j1 i (by rw [HLE.out]; omega) (by rw [HLE.out]; omega) (by rw [HLE.out]; omega))
    have hm := meth_less (HR2.out.hp.box.cell 0 (.slice A es1.length c) rfl)
    go_wp2_with fail
    refine KM.out.mono ?_
    rintro e w4 ⟨rfl, hb4⟩
    have HR4 := Lib.hid (HR2.out.up hb4)
    clear hb4 KM hm
    by_cases q2 : lsE (ent es1 j1) (ent es1 i)
    ·rw [decide_eq_true q2]
     have KS := Lib.hid (eswap_any HR4.out.hp i j1 (by rw [HLE.out]; omega) (by rw [HLE.out]; omega) (by rw [HLE.out]; omega))
     have hm := meth_swap (HR4.out.hp.box.cell 0 (.slice A es1.length c) rfl)
     have HU4 := Lib.hid (dn_step HU.out HPAR.out.1 HPAR.out.2 h1 (by rw [HLE.out]; omega) q2 HMIN.out)
     have HL4 := Lib.hid (show ent (swL es1 i j1) n = ent es n by
      rw [sw_at (by rw [HLE.out]; omega) (by rw [HLE.out]; omega), if_neg (by omega), if_neg (by omega)]; exact HL.out)
     clear q2
     go_wp2_with fail
     refine KS.out.mono ?_
     rintro e w5 ⟨rfl, hh5, hk5⟩
     have HR5 := Lib.hid (HR4.out.sw (i := i) (j := j1) (by rw [← HN.out]; omega) (by rw [← HN.out]; omega) hh5 hk5)
     clear hh5 hk5 KS hm
     go_wp2
     go_roundw
     case rel => exact ⟨j1, swL es1 i j1, by first | rfl | simp [hpr] | simp [hpr, hpr2], .inl h1, HR5, HU4, HL4⟩
     case measure => simp [RowKit.intOf]; omega
    ·rw [decide_eq_false q2]
     have HF := Lib.hid (dn_end HU.out q2 HMIN.out)
     clear q2
     go_wp2
     refine bodyPost_ret (v := .bool (decide (0 < i))) (by simp [results, Tryz.results67, go_sem]) rfl ⟨⟨_, rfl⟩, es1, HR4.out, HF.out, HL.out⟩
  ·have HF := Lib.hid (dn_end0 HU.out (by omega))
   clear hj1
   go_wp2
   refine bodyPost_ret (v := .bool (decide (0 < i))) (by simp [results, Tryz.results67, go_sem]) rfl ⟨⟨_, rfl⟩, es1, HR.out, HF.out, HL.out⟩

set_option maxRecDepth 20000 in
set_option maxHeartbeats 8000000 in
theorem hpush_any {w : World} {base H : Nat} {A : Option Addr} {c : Nat} {es : List En} (h : HpA w base H A c es) (hp : HpN es es.length) (x : En) (hl : es.length ≤ 10000000) (hb : base ≤ w.heap.size) (hxl : x.facts.length ≤ 1000000) :
  Calls Tryz.prog 39 #[hpV H, .iface 88 (.agg #[.slice x.fa x.facts.length x.fc, .int .i64 x.dist, .int .i64 x.ord])] w fun e w' => e = .returned (.tuple #[]) ∧ ∃ es', PuRet base H A c es es' w w' ∧ HpN es' es'.length ∧ es'.length = es.length + 1 ∧ (∀ y, y ∈ es' ↔ y ∈ es ∨ y = x) := by
 have HH := Lib.hid h
 have HP := Lib.hid hp
 have K1 := Lib.hid (epush_any h x (by omega) hb hxl)
 have hm := meth_push w (.pointer (some ⟨H, 0, none⟩))
 clear h hp
 go_enter Tryz.func39, Tryz.ntmps39
 go_wp2_with fail
 refine K1.out.mono ?_
 rintro e w1 ⟨rfl, A1, c1, h1, k1, a1⟩
 obtain ⟨es1, hes1⟩ : ∃ es1, es1 = es ++ [x] := ⟨_, rfl⟩
 have hlen : es1.length = es.length + 1 := by rw [hes1]; simp
 have K3 := Lib.hid (hup_any h1 es.length (by simp) (by rw [← hes1, hlen, hes1]; exact up_start HP.out) (by simp; omega))
 rw [← hes1] at h1 a1 K3
 have HH1 := Lib.hid h1
 have HK1 := Lib.hid k1
 have HA1 := Lib.hid a1
 have hm1 := meth_len (h1.box.cell 0 (.slice A1 es1.length c1) rfl)
 have K2 := Lib.hid (elen_any A1 es1.length c1 w1 (by omega))
 have HLEN := Lib.hid hlen
 have HES := Lib.hid hes1
 have hpr : (es1.length : Int) - 1 = (es.length : Int) := by omega
 have hl1 : es1.length ≤ 10000001 := by omega
 clear h1 k1 a1 K1 hm hlen hes1
 go_wp2_with fail
 refine K2.out.mono ?_
 rintro e w2 ⟨rfl, rfl⟩
 clear K2 hm1
 go_wp2_with fail
 refine K3.out.mono ?_
 rintro e w3 ⟨rfl, es3, hr3, hn3⟩
 have HR3 := Lib.hid hr3
 have HN3 := Lib.hid hn3
 clear hr3 hn3 K3
 go_wp2
 refine bodyPost_end (results_none rfl _ _ _) rfl ⟨rfl, es3, ⟨A1, c1, HR3.out.hp, ?_, ?_⟩, by rw [HR3.out.len]; exact HN3.out, by rw [HR3.out.len]; exact HLEN.out, fun y => by rw [HR3.out.mem y, HES.out]; simp⟩
 ·have hk := HR3.out.kb
  have hk1 := HK1.out
  refine ⟨hk.os.trans hk1.os, hk.tape.trans hk1.tape, hk.output.trans hk1.output, Nat.le_trans hk1.size hk.size, fun b hb hn => ?_⟩
  rw [hk.block b (Nat.lt_of_lt_of_le hb hk1.size) (fun e => ?_), hk1.block b hb hn]
  rcases HA1.out with e1 | ⟨g, hg, e1⟩
  ·exact hn (.inr (by rw [← e1]; exact e))
  ·rw [e1] at e; injection e with e; omega
 ·rw [HR3.out.len]; exact HA1.out

set_option maxRecDepth 20000 in
set_option maxHeartbeats 8000000 in
theorem hpop_any {w : World} {base H : Nat} {A : Option Addr} {c : Nat} {es : List En} (h : HpA w base H A c es) (hp : HpN es es.length) (h0 : 0 < es.length) (hl : es.length ≤ 10000000) :
  Calls Tryz.prog 35 #[hpV H] w fun e w' => ∃ x es', e = .returned (.iface 88 (.agg #[.slice x.fa x.facts.length x.fc, .int .i64 x.dist, .int .i64 x.ord])) ∧ HpA w' base H A c es' ∧ HpN es' es'.length ∧ es'.length + 1 = es.length ∧ (∀ y, y ∈ es ↔ y ∈ es' ∨ y = x) ∧ (∀ y ∈ es', x.dist ≤ y.dist) ∧ Kb (fun b => b = H ∨ (Value.slice A es.length c).ownBlock = some b) w w' := by
 obtain ⟨n, hn⟩ : ∃ n, es.length = n + 1 := ⟨es.length - 1, by omega⟩
 have HH := Lib.hid h
 have HP := Lib.hid hp
 have HNN := Lib.hid hn
 have hm := meth_len (h.box.cell 0 (.slice A es.length c) rfl)
 have hm2 := meth_swap (h.box.cell 0 (.slice A es.length c) rfl)
 have K1 := Lib.hid (elen_any A es.length c w (by omega))
 have K2 := Lib.hid (eswap_any h 0 n (by omega) (by omega) (by omega))
 have hpr : (es.length : Int) - 1 = (n : Int) := by omega
 have hl2 : n ≤ 10000000 := by omega
 clear h hp hn
 go_enter Tryz.func35, Tryz.ntmps35
 go_wp2_with fail
 refine K1.out.mono ?_
 rintro e w1 ⟨rfl, rfl⟩
 clear K1
 go_wp2_with fail
 refine K2.out.mono ?_
 rintro e w2 ⟨rfl, h2, k2⟩
 have HH2 := Lib.hid (show HpA w2 base H A c (swL es 0 n) from h2)
 have HK2 := Lib.hid k2
 have K3 := Lib.hid (hdn_any h2 n (by rw [sw_len, HNN.out]) (dn_start (by rw [← HNN.out]; exact HP.out) (by rw [HNN.out]; exact Nat.le_refl _)) (by rw [sw_len, HNN.out]; omega))
 clear h2 k2 K2 hm hm2 hpr
 go_wp2_with fail
 refine K3.out.mono ?_
 rintro e w3 ⟨⟨bb, rfl⟩, es3, hr3, hn3, he3⟩
 have HR3 := Lib.hid hr3
 have HN3 := Lib.hid hn3
 have hl3 : es3.length = n + 1 := by rw [HR3.out.len, sw_len, HNN.out]
 have Hsp := Lib.hid (take_last hl3)
 have HL3 := Lib.hid hl3
 obtain ⟨x, hx⟩ : ∃ x, x = ent es3 n := ⟨_, rfl⟩
 obtain ⟨es4, hes4⟩ : ∃ es4, es4 = es3.take n := ⟨_, rfl⟩
 rw [← hx, ← hes4] at Hsp
 have HX := Lib.hid (show x = ent es 0 by
  rw [hx, he3, sw_at (by rw [HNN.out]; omega) (by rw [HNN.out]; omega), if_pos rfl])
 have hl4 : es4.length = n := by rw [hes4, List.length_take, hl3]; omega
 have HL4 := Lib.hid hl4
 have HN4 := Lib.hid (show HpN es4 es4.length by rw [hl4, hes4]; exact hp_take HN3.out (by rw [HL3.out]; omega))
 have hh4 : HpA w3 base H A c (es4 ++ [x]) := by rw [← Hsp.out]; exact HR3.out.hp
 have K4 := Lib.hid (epop_any hh4 (by omega))
 have hm := meth_pop w3 (.pointer (some ⟨H, 0, none⟩))
 clear hr3 hn3 he3 hl3 hx hes4 hl4 hh4 K3
 go_wp2_with fail
 refine K4.out.mono ?_
 rintro e w4 ⟨rfl, h4, k4⟩
 have HH4 := Lib.hid h4
 have HK4 := Lib.hid k4
 clear h4 k4 K4 hm
 have HM4 := Lib.hid (show ∀ y, y ∈ es ↔ y ∈ es4 ∨ y = x from fun y => by
  rw [← sw_mem (es := es) (i := 0) (j := n) (by rw [HNN.out]; omega) (by rw [HNN.out]; omega), ← HR3.out.mem y, Hsp.out]
  simp)
 go_wp2
 refine bodyPost_ret (v := .iface 88 (.agg #[.slice x.fa x.facts.length x.fc, .int .i64 x.dist, .int .i64 x.ord])) (by simp [results, Tryz.results35, go_sem]) rfl ⟨x, es4, rfl, HH4.out, HN4.out, by rw [HL4.out, HNN.out], HM4.out, fun y hy => ?_, ?_⟩
 ·obtain ⟨i, hi, rfl⟩ := mem_ent ((HM4.out y).2 (.inl hy))
  rw [HX.out]
  exact leE_dist (hp_min HP.out i hi)
 ·have hk2 := HK2.out
  have hk3 := HR3.out.kb
  rw [sw_len] at hk3
  have hk4 := HK4.out
  refine ⟨hk4.os.trans (hk3.os.trans hk2.os), hk4.tape.trans (hk3.tape.trans hk2.tape), hk4.output.trans (hk3.output.trans hk2.output), Nat.le_trans hk2.size (Nat.le_trans hk3.size hk4.size), fun b hb hn => ?_⟩
  rw [hk4.block b (Nat.lt_of_lt_of_le hb (Nat.le_trans hk2.size hk3.size)) (fun e => hn (.inl e)), hk3.block b (Nat.lt_of_lt_of_le hb hk2.size) (fun e => hn (.inr e)), hk2.block b hb (fun e => hn (.inr e))]
end Go.Proofs.YtlkebhiaimijiaaGreatDoor
