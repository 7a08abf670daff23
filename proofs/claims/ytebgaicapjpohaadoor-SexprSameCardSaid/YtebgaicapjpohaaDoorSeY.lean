/- sexpr: next at an opening parenthesis, walked. -/
import Derived.Test.YtebgaicapjpohaaDoorRegA
import Derived.Test.YtebgaicapjpohaaDoorSeX
namespace Go.Proofs.YtebgaicapjpohaaDoor
set_option linter.unusedSimpArgs false
set_option linter.unusedVariables false
open Go Go.RowKit
set_option linter.unusedVariables false

theorem grown_drew {w w' : World} {row : Option Nat} (h : w.drew.grownBy w' row) : w.grownBy w' row := ⟨h.os, h.tape, h.output, h.size, h.block⟩
theorem next_open (r : List UInt8) (s : Rd) : nextP 40 r s = if 32 < s.open_.length ∨ s.nodes = 4096 then .inr 5 else .inl ⟨r, (s.pos.1, s.pos.2 + 1), s.nodes + 1, .mk 3 0 s.pos.1 s.pos.2 [] [] :: s.open_⟩ := by
  unfold nextP
  rw [if_pos rfl, tk_step (by decide)]

set_option maxRecDepth 20000 in
set_option maxHeartbeats 4000000 in
theorem next_open_any (B R gO cO : Nat) (s : List UInt8) (k : Nat) (l c : Int) (n : Nat) (os : List Op1) (w : World)
    (hb : RdX w R (bs s) k l c n (.slice (some ⟨gO, 0, none⟩) os.length cO)) (hk : k < s.length) (hs : s.length ≤ 65536) (hp : PosOk k l c) (hn : n ≤ 4096) (hms : os.length ≤ 33) (hks : ∀ o' ∈ os, o'.x.kids.length ≤ k)
    (h : StkAt B R w (.slice (some ⟨gO, 0, none⟩) os.length cO) os) (hR : B ≤ R) (h1 : bt s k = 40) :
    Calls Tryd.prog 15 #[.pointer (some ⟨R, 0, none⟩)] w (NxtRet B R s k l c (nextP (bt s k) (s.drop (k + 1)) ⟨s.drop k, (l, c), n, opX os⟩) w) := by
  obtain ⟨res, hres⟩ : ∃ res, nextP (bt s k) (s.drop (k + 1)) ⟨s.drop k, (l, c), n, opX os⟩ = res := ⟨_, rfl⟩
  rw [hres]
  rw [h1, next_open] at hres
  dsimp only at hres
  rw [show (opX os).length = os.length by unfold opX; simp] at hres
  obtain ⟨m, hm⟩ : ∃ m, os.length = m := ⟨_, rfl⟩
  have HM := Lib.hid hm
  rw [hm] at hres hb hms h
  have rlt := hb.lt
  have hz := bs_size s
  have hget : (bs s)[k]'(by omega) = bt s k := bs_get s k (by omega)
  have KST := Lib.hid (fun (n : Int) O W (h : RdX W R (bs s) k l c n O) => step_any R s k l c n O W h hk hs hp.1 (by unfold PosOk at hp; omega) hp.2.2.1 (by unfold PosOk at hp; omega))
  rw [h1, tk_step (by decide)] at KST
  dsimp only at KST
  obtain ⟨S, hS⟩ : ∃ S, bs s = S := ⟨_, rfl⟩
  have hkS : k < S.size := by subst hS; omega
  have hget' : S[k] = bt s k := by subst hS; exact hget
  have HS := Lib.hid hS
  rw [hS] at hb KST hz
  have h1' : S[k].toNat = 40 := by rw [hget', h1]; rfl
  have hd1 : decide ((S[k].toNat : Int) = 40) = true := by simp; omega
  have c0 := RdX.c0 hb
  have c1 := RdX.c1 hb
  have c4 := RdX.c4 hb
  have c5 := RdX.c5 hb
  have HB := Lib.hid hb
  have H := Lib.hid h
  have HK := Lib.hid hks
  have HP := Lib.hid hp
  have HRES := Lib.hid hres
  have hBw : B ≤ w.heap.size := by omega
  clear hres hget hget' hS hb hks hp h1
  by_cases hm32 : 32 < m
  · have hm32' : decide ((32 : Int) < (m : Int)) = true := by simp; omega
    have HE := Lib.hid (show res = .inr 5 by rw [← HRES.out, if_pos (.inl hm32)])
    clear h
    go_enter Tryd.func15, Tryd.ntmps15
    go_wp2_with fail
    go_quiet (fail)
    go_wp2
    refine bodyPost_ret (v := .iface 41 (.int .i64 5)) (by simp [results, Tryd.results15, go_sem, ↓IntWalk.iteOmega, *]) rfl ?_
    rw [HE.out]
    exact ⟨by repeat (first | exact Below.refl _ _ | refine below_dN ?_ _ | refine Below.drew ?_ | refine Below.alloc ?_ (by first | omega | (simp; done) | (simp; omega)) _ | refine Below.setCell ?_ (by first | omega | (simp; done) | (simp; omega)) _ | refine below_step (by assumption) (by first | omega | (simp; done) | (simp; omega)) ?_), rfl, by decide, _, _, by rw [HS.out]; exact HB.out.up (by repeat (first | exact Below.refl _ _ | refine below_dN ?_ _ | refine Below.drew ?_ | refine Below.alloc ?_ (by first | omega | (simp; done) | (simp; omega)) _ | refine Below.setCell ?_ (by first | omega | (simp; done) | (simp; omega)) _ | refine below_step (by assumption) (by first | omega | (simp; done) | (simp; omega)) ?_))⟩
  · have hm32' : decide ((32 : Int) < (m : Int)) = false := by simp; omega
    by_cases hn4 : n = 4096
    · have HE := Lib.hid (show res = .inr 5 by rw [← HRES.out, if_pos (.inr hn4)])
      have hn5 : (n : Int) = 4096 := by omega
      clear h hn4
      go_enter Tryd.func15, Tryd.ntmps15
      go_wp2_with fail
      go_quiet (fail)
      go_wp2
      refine bodyPost_ret (v := .iface 41 (.int .i64 5)) (by simp [results, Tryd.results15, go_sem, ↓IntWalk.iteOmega, *]) rfl ?_
      rw [HE.out]
      exact ⟨by repeat (first | exact Below.refl _ _ | refine below_dN ?_ _ | refine Below.drew ?_ | refine Below.alloc ?_ (by first | omega | (simp; done) | (simp; omega)) _ | refine Below.setCell ?_ (by first | omega | (simp; done) | (simp; omega)) _ | refine below_step (by assumption) (by first | omega | (simp; done) | (simp; omega)) ?_), rfl, by decide, _, _, by rw [HS.out]; exact HB.out.up (by repeat (first | exact Below.refl _ _ | refine below_dN ?_ _ | refine Below.drew ?_ | refine Below.alloc ?_ (by first | omega | (simp; done) | (simp; omega)) _ | refine Below.setCell ?_ (by first | omega | (simp; done) | (simp; omega)) _ | refine below_step (by assumption) (by first | omega | (simp; done) | (simp; omega)) ?_))⟩
    · have HE := Lib.hid (show res = .inl ⟨s.drop (k + 1), (l, c + 1), n + 1, .mk 3 0 l c [] [] :: opX os⟩ by rw [← HRES.out, if_neg (fun hh => hh.elim hm32 hn4)])
      have hn5 : ¬ (n : Int) = 4096 := by omega
      have f4 := HB.out.fz 4
      have HN4 := Lib.hid hn4
      clear h hn4
      obtain ⟨infS, hiS, ez0, ez1, ez2⟩ := info_parts qinfoSx
      go_enter Tryd.func15, Tryd.ntmps15
      go_wp2_with fail
      go_quiet (fail)
      go_wp2_with fail
      obtain ⟨wb, hwb⟩ : ∃ wb : World, (w.drewN nq).setCell ⟨R, 4, none⟩ (.int .i64 ((n : Int) + 1)) = wb := ⟨_, rfl⟩
      have HKB := Lib.hid (show Kb (fun g => g = R) w wb by
        rw [← hwb]
        exact (show Kb (fun g => g = R) w (w.drewN nq) from Kb.of_below (below_dN (Below.refl _ _) nq)).set (p := ⟨R, 4, none⟩) (.inl rfl) _)
      have HBB := Lib.hid (show RdX wb R S k l c ((n : Int) + 1) (.slice (some ⟨gO, 0, none⟩) m cO) by
        rw [← hwb]
        exact RdX.s4 (HB.out.up (below_dN (Below.refl _ _) nq)) ((n : Int) + 1))
      have HSB := Lib.hid (H.out.box HKB.out)
      have hsz : wb.heap.size = w.heap.size := by rw [← hwb]; simp [World.setCell]
      rw [hwb]
      clear hwb c0 c1 c4 c5 f4
      have HS0 := Lib.hid (show ∀ w', Below wb.heap.size wb w' → w'.cell? ⟨R, 5, none⟩ = some (.slice (some ⟨gO, 0, none⟩) m cO) ∧ w'.cell? ⟨R, 2, none⟩ = some (.int .i64 l) ∧ w'.cell? ⟨R, 3, none⟩ = some (.int .i64 c) from fun w' hb' => ⟨RdX.c5 (HBB.out.up hb'), RdX.c2 (HBB.out.up hb'), RdX.c3 (HBB.out.up hb')⟩)
      have hown := HSB.out.own
      rw [HM.out] at hown
      have HOW := Lib.hid hown
      have HLO := Lib.hid (show (opCells os).length = m * 6 by rw [opCells_len, HM.out])
      have HRO := Lib.hid (show some R ≠ (Value.slice (some ⟨gO, 0, none⟩) m cO).ownBlock from fun e => HSB.out.rO e.symm)
      have rlt2 : R < wb.heap.size := by omega
      have hBs : B ≤ wb.heap.size := by omega
      clear hown hsz
      refine wp_region_G 15 (fun w' => w'.cell? ⟨R, 5, none⟩ = some (.slice (some ⟨gO, 0, none⟩) m cO) ∧ w'.cell? ⟨R, 2, none⟩ = some (.int .i64 l) ∧ w'.cell? ⟨R, 3, none⟩ = some (.int .i64 c)) (by kernel_rfl) (HS0.out _ (by repeat (first | exact Below.refl _ _ | refine below_dN ?_ _ | refine Below.drew ?_ | refine Below.alloc ?_ (by first | omega | (simp; done) | (simp; omega)) _ | refine Below.setCell ?_ (by first | omega | (simp; done) | (simp; omega)) _ | refine below_step (by assumption) (by first | omega | (simp; done) | (simp; omega)) ?_))) ?_
      intro hG0
      refine wpS1 0 hG0 ?_; intro hG1; clear hG0
      refine wpS1 1 hG1 ?_; intro hG2; clear hG1
      refine wpS1 2 hG2 ?_; intro hG3; clear hG2
      refine wpS2 3 hG3 ?_; intro hG4; clear hG3
      refine wpS1 4 hG4 ?_; intro hG5; clear hG4
      refine wpS1 5 hG5 ?_; intro hG6; clear hG5
      refine wpS1 6 hG6 ?_; intro hG7; clear hG6
      refine wpS2 7 hG7 ?_; intro hG8; clear hG7
      refine wpS1 8 hG8 ?_; intro hG9; clear hG8
      refine wpS1 9 hG9 ?_; intro hG10; clear hG9
      refine wpS1 10 hG10 ?_; intro hG11; clear hG10
      refine wpS2 11 hG11 ?_; intro hG12; clear hG11
      refine wpS1 12 hG12 ?_; intro hG13; clear hG12
      refine wpS1 13 hG13 ?_; intro hG14; clear hG13
      refine wpAnyG_ready (rs := [14]) (by kernel_rfl) (by simp) (AllG.cons rfl hG14 (fun K hK => ?_) AllG.nil)
      (go_simp)
      refine hK.out _ _ (Or.inr (HS0.out _ (by repeat (first | exact Below.refl _ _ | refine below_dN ?_ _ | refine Below.drew ?_ | refine Below.alloc ?_ (by first | omega | (simp; done) | (simp; omega)) _ | refine Below.setCell ?_ (by first | omega | (simp; done) | (simp; omega)) _ | refine below_step (by assumption) (by first | omega | (simp; done) | (simp; omega)) ?_)))) (fun hG15 => wpN ?_); clear hK hG14
      refine wpAnyG_ready (rs := [15]) (by kernel_rfl) (by simp) (AllG.cons rfl hG15 (fun K hK => ?_) AllG.nil)
      (refine step_append_src (by rfl) _ _ 26 (by rfl) B 34 infS (.agg #[.int .i64 0, .int .i64 0, .int .i64 0, .int .i64 0, .string ByteArray.empty, .slice none 0 0]) 6 72 qundSx hiS ez0 ez1 ez2 rfl (by decide) (.slice (some ⟨gO, 0, none⟩) m cO) m (opCells os) (by rfl) (by exact (HOW.out.alloc _)) (some ⟨wb.heap.size, 0, none⟩) 1 1 zero6 (by rfl) (src_of (heap_alloc_new wb.drew (Obj.cells #[.int .i64 0, .int .i64 0, .int .i64 0, .int .i64 0, .string ByteArray.empty, .slice none 0 0] 34)) rfl (six_one rfl rfl rfl rfl rfl rfl)) (by unfold maxLen; omega) (by omega) (by first | omega | (simp; done) | (simp; omega)) ?_; intro v9 w9 hown9 hgrow9 hat9; obtain ⟨A9, c9, rfl⟩ := own_shape hown9; obtain ⟨gN, rfl, hgK1, hgK2, hgK3⟩ := own_frozen hown9 (Nat.succ_pos _); have HO9 := Lib.hid hown9; have HG9 := Lib.hid hgrow9; have HA9 := Lib.hid hat9; have HX9 := Lib.hid (show RdX w9 R S k l c ((n : Int) + 1) (.slice (some ⟨gO, 0, none⟩) m cO) from (hgrow9.block R (by simp [World.size_alloc]; omega) HRO.out).trans (HBB.out.up (by repeat (first | exact Below.refl _ _ | refine below_dN ?_ _ | refine Below.drew ?_ | refine Below.alloc ?_ (by first | omega | (simp; done) | (simp; omega)) _ | refine Below.setCell ?_ (by first | omega | (simp; done) | (simp; omega)) _ | refine below_step (by assumption) (by first | omega | (simp; done) | (simp; omega)) ?_)))); clear hown9 hgrow9 hat9 hgK3)
      refine hK.out _ _ (Or.inl rfl) (fun hG16 => wpN ?_); clear hK hG15
      refine wpS1 16 hG16 ?_; intro hG17; clear hG16
      refine wpS1 18 hG17 ?_; intro hG18; clear hG17
      refine wpS1 19 hG18 ?_; intro hG19; clear hG18
      refine wpAnyG_ready (rs := [17, 20]) (by kernel_rfl) (by simp) (AllG.cons rfl hG19 (fun K hK => ?_) (AllG.cons rfl hG19 (fun K hK => ?_) AllG.nil))
      (refine step_store6 (by rfl) 34 _ _ (by rfl) gN (m * 6) (.int .i64 3) (.int .i64 0) (.int .i64 l) (.int .i64 c) (.string (bs [])) (.slice none 0 0) (by rfl) (by rfl) (there_own HO9.out (by omega)) qsizeSx (six_one rfl rfl rfl rfl rfl rfl) ?_; intro wx HWX)
      refine hK.out _ _ (Or.inl rfl) (fun hG20 => wpN ?_); clear hK hG19
      refine wpAnyG_ready (rs := [20]) (by kernel_rfl) (by simp) (AllG.cons rfl hG20 (fun K hK => ?_) AllG.nil)
      (refine step_store1 (by rfl) 26 _ _ (by rfl) R 5 (.slice (some ⟨gN, 0, none⟩) (m + 1) c9) rfl (by rfl) (by rfl) (by rw [HWX.out]; exact there_set6 (there_blk HX9.out (Nat.le_refl 6))) qsizeSl rfl ?_; intro wy HWY)
      refine hK.out _ _ (Or.inl rfl) (fun hG21 => wpN ?_); clear hK hG20
      refine wpAnyG_done (by kernel_rfl) ?_ _; clear hG21
      rotate_left
      (refine step_store1 (by rfl) 26 _ _ (by rfl) R 5 (.slice (some ⟨gN, 0, none⟩) (m + 1) c9) rfl (by rfl) (by rfl) (there_blk HX9.out (Nat.le_refl 6)) qsizeSl rfl ?_; intro wy HWY)
      refine hK.out _ _ (Or.inl rfl) (fun hG20 => wpN ?_); clear hK hG19
      refine wpAnyG_ready (rs := [17]) (by kernel_rfl) (by simp) (AllG.cons rfl hG20 (fun K hK => ?_) AllG.nil)
      (refine step_store6 (by rfl) 34 _ _ (by rfl) gN (m * 6) (.int .i64 3) (.int .i64 0) (.int .i64 l) (.int .i64 c) (.string (bs [])) (.slice none 0 0) (by rfl) (by rfl) (by rw [HWY.out]; exact there_set (there_own HO9.out (by omega))) qsizeSx (six_one rfl rfl rfl rfl rfl rfl) ?_; intro wx HWX)
      refine hK.out _ _ (Or.inl rfl) (fun hG21 => wpN ?_); clear hK hG20
      refine wpAnyG_done (by kernel_rfl) ?_ _; clear hG21
      rotate_left
      all_goals have HNR := Lib.hid (show R ≠ gN from fun e => by
        rcases HA9.out with h | h
        · exact HRO.out (by rw [← h, e]; rfl)
        · have h2 := Option.some.inj h
          have h3 : (wb.drew.alloc (Obj.cells #[Value.int IntKind.i64 0, Value.int IntKind.i64 0, Value.int IntKind.i64 0, Value.int IntKind.i64 0, Value.string { data := #[] }, Value.slice none 0 0] 34)).heap.size = wb.heap.size + 1 := by simp [World.size_alloc]
          have h4 : gN = wb.heap.size + 1 := by rw [← h3]; exact h2
          omega)
      all_goals have FIN := Lib.hid (show ∀ wz : World, wz = (set6 w9 gN (m * 6) (.int .i64 3) (.int .i64 0) (.int .i64 l) (.int .i64 c) (.string (bs [])) (.slice none 0 0)).setCell ⟨R, 5, none⟩ (.slice (some ⟨gN, 0, none⟩) (m + 1) c9) → RdX wz R S k l c ((n : Int) + 1) (.slice (some ⟨gN, 0, none⟩) (m + 1) c9) ∧ StkAt B R wz (.slice (some ⟨gN, 0, none⟩) (m + 1) c9) (os ++ [⟨.mk 3 0 l c [] [], .slice none 0 0, []⟩]) ∧ Below B w wz from fun wz e => by
        subst e
        have hbc : Below wb.heap.size wb (wb.drew.alloc (Obj.cells #[Value.int IntKind.i64 0, Value.int IntKind.i64 0, Value.int IntKind.i64 0, Value.int IntKind.i64 0, Value.string { data := #[] }, Value.slice none 0 0] 34)) := by repeat (first | exact Below.refl _ _ | refine below_dN ?_ _ | refine Below.drew ?_ | refine Below.alloc ?_ (by first | omega | (simp; done) | (simp; omega)) _ | refine Below.setCell ?_ (by first | omega | (simp; done) | (simp; omega)) _ | refine below_step (by assumption) (by first | omega | (simp; done) | (simp; omega)) ?_)
        have hat : some gN = (Value.slice (some ⟨gO, 0, none⟩) m cO).ownBlock ∨ gN = (wb.drew.alloc (Obj.cells #[Value.int IntKind.i64 0, Value.int IntKind.i64 0, Value.int IntKind.i64 0, Value.int IntKind.i64 0, Value.string { data := #[] }, Value.slice none 0 0] 34)).heap.size := by
          rcases HA9.out with h | h
          · exact .inl h
          · exact .inr (Option.some.inj h)
        have hR' : R < (wb.drew.alloc (Obj.cells #[Value.int IntKind.i64 0, Value.int IntKind.i64 0, Value.int IntKind.i64 0, Value.int IntKind.i64 0, Value.string { data := #[] }, Value.slice none 0 0] 34)).heap.size := Nat.lt_of_lt_of_le rlt2 hbc.size
        have hst := HSB.out.up hbc
        have hpush := StkAt.push (k := 3) (v := 0) (l := l) (c := c) (t := []) hst hR' (by rw [HM.out]) HO9.out rfl (by rw [HM.out]) HG9.out hat (.slice (some ⟨gN, 0, none⟩) (m + 1) c9)
        have hnR : R ≠ gN := by
          rcases hat with e | e
          · exact fun e2 => HRO.out (by rw [← e, e2])
          · omega
        refine ⟨?_, hpush.1, ?_⟩
        · have h1 : RdX (set6 w9 gN (m * 6) (.int .i64 3) (.int .i64 0) (.int .i64 l) (.int .i64 c) (.string (bs [])) (.slice none 0 0)) R S k l c ((n : Int) + 1) (.slice (some ⟨gO, 0, none⟩) m cO) := (((((HX9.out.far (p := ⟨gN, _, none⟩) hnR _).far (p := ⟨gN, _, none⟩) hnR _).far (p := ⟨gN, _, none⟩) hnR _).far (p := ⟨gN, _, none⟩) hnR _).far (p := ⟨gN, _, none⟩) hnR _).far (p := ⟨gN, _, none⟩) hnR _
          exact RdX.s5 h1 _
        · have k1 : Below B w wb := HKB.out.below (fun b hb e => by omega) hBw
          have k2 : Below B wb _ := hbc.mono hBs
          have k3 := hpush.2.below (hst.low hR) (Nat.le_trans hBs hbc.size)
          exact (k1.trans k2).trans k3)
      · obtain ⟨hxz, hsz, hbz⟩ := FIN.out wy (by rw [HWY.out, HWX.out])
        have HXZ := Lib.hid hxz
        have HSZ := Lib.hid hsz
        have HBZ := Lib.hid hbz
        have hBz := Nat.le_trans hBw hbz.size
        clear hxz hsz hbz
        go_wp2_with fail
        refine (KST.out _ _ _ HXZ.out).mono ?_
        rintro e w3 ⟨rfl, hx3, hk3⟩
        have HX3 := Lib.hid hx3
        have HK3 := Lib.hid hk3
        clear hx3 hk3
        go_wp2
        refine bodyPost_ret (v := .nilIface) (by simp [results, Tryd.results15, go_sem, ↓IntWalk.iteOmega, *]) rfl ?_
        rw [HE.out]
        have hl : (os ++ [(⟨.mk 3 0 l c [] [], .slice none 0 0, []⟩ : Op1)]).length = m + 1 := by simp [HM.out]
        refine ⟨HBZ.out.trans (HK3.out.below (fun b hb e => by omega) hBz), rfl, k + 1, gN, c9, os ++ [⟨.mk 3 0 l c [] [], .slice none 0 0, []⟩], by omega, by omega, rfl, PosOk.far HP.out 1 rfl, by have := HN4.out; show n + 1 ≤ 4096; omega, by rw [hl]; omega, by simp, by rw [opX_app], ?_, ?_, ?_⟩
        · intro o' ho'
          rw [List.mem_append, List.mem_singleton] at ho'
          rcases ho' with ho' | ho'
          · have := HK.out o' ho'; omega
          · subst ho'; exact Nat.zero_le _
        · rw [hl, HS.out]; exact HX3.out
        · rw [hl]; exact HSZ.out.box HK3.out
      · obtain ⟨hxz, hsz, hbz⟩ := FIN.out wx (by rw [HWX.out, HWY.out]; exact set6_comm _ (q := ⟨R, 5, none⟩) (fun e => HNR.out e.symm) _ _ _ _ _ _ _)
        have HXZ := Lib.hid hxz
        have HSZ := Lib.hid hsz
        have HBZ := Lib.hid hbz
        have hBz := Nat.le_trans hBw hbz.size
        clear hxz hsz hbz
        go_wp2_with fail
        refine (KST.out _ _ _ HXZ.out).mono ?_
        rintro e w3 ⟨rfl, hx3, hk3⟩
        have HX3 := Lib.hid hx3
        have HK3 := Lib.hid hk3
        clear hx3 hk3
        go_wp2
        refine bodyPost_ret (v := .nilIface) (by simp [results, Tryd.results15, go_sem, ↓IntWalk.iteOmega, *]) rfl ?_
        rw [HE.out]
        have hl : (os ++ [(⟨.mk 3 0 l c [] [], .slice none 0 0, []⟩ : Op1)]).length = m + 1 := by simp [HM.out]
        refine ⟨HBZ.out.trans (HK3.out.below (fun b hb e => by omega) hBz), rfl, k + 1, gN, c9, os ++ [⟨.mk 3 0 l c [] [], .slice none 0 0, []⟩], by omega, by omega, rfl, PosOk.far HP.out 1 rfl, by have := HN4.out; show n + 1 ≤ 4096; omega, by rw [hl]; omega, by simp, by rw [opX_app], ?_, ?_, ?_⟩
        · intro o' ho'
          rw [List.mem_append, List.mem_singleton] at ho'
          rcases ho' with ho' | ho'
          · have := HK.out o' ho'; omega
          · subst ho'; exact Nat.zero_le _
        · rw [hl, HS.out]; exact HX3.out
        · rw [hl]; exact HSZ.out.box HK3.out
end Go.Proofs.YtebgaicapjpohaaDoor
