/- explore: Explore, walked. -/
import Derived.Test.YtpobnjbpglaohaaGreatWgA
import Derived.Test.YtpobnjbpglaohaaGreatWuA
import Derived.Test.YtpobnjbpglaohaaGreatGood
import Derived.Deep.CutBlock
import Derived.WalkKit
import Derived.RowKitTokens
namespace Go.Proofs.YtpobnjbpglaohaaGreat
set_option linter.unusedSimpArgs false
set_option linter.unusedVariables false
open Go Go.RowKit Go.Maps
set_option linter.unusedVariables false

set_option maxHeartbeats 1000000 in
theorem errIs_nil (k : Int) (w : World) : Calls Tryz.prog 29 #[.nilIface, .iface 72 (.int .i64 k)] w fun e w' => e = .returned (.bool false) ∧ w' = w := by
  have hn := run_eql_iface_nil_left (P := Tryz.prog) w 72 (.int .i64 k) Tryz.underlying31
  go_enter Tryz.func29, Tryz.ntmps29
  go_wp2
  go_ret
  exact ⟨by simp, rfl⟩
theorem qundBo : Tryz.prog.underlying 74 = some (.slice 4) := by kernel_rfl
theorem qinfBo : (Tryz.prog.info? 4).map (fun i => (i.zero, i.size, i.bytes)) = some (some (.bool false), 1, 1) := by kernel_rfl
theorem qundEd : Tryz.prog.underlying 45 = some (.slice 64) := by kernel_rfl
theorem qinfEd : (Tryz.prog.info? 64).map (fun i => (i.zero, i.size, i.bytes)) = some (some (.agg #[.int .i64 0, .int .i64 0, .int .i64 0]), 3, 24) := by kernel_rfl
theorem bfs_zero (t : Tsk) : (bfs t 0).1 = adS [] t.init ∧ (bfs t 0).2 = [] := by
  unfold adS
  rw [if_neg (by simp)]
  exact ⟨rfl, rfl⟩

set_option maxRecDepth 20000 in
set_option maxHeartbeats 16000000 in
theorem explore_any (t : Tsk) (p : Lies) (w : World) (lim : Nat) (ht : TaskAt w w.heap.size t p) (hs : Smll t) (hl : lim = 512 ∨ lim = 5) (hlim : (sts t.vars).length ≤ lim) :
    Calls Tryz.prog 6 #[TaskV t p, .int .i64 (lim : Nat)] w fun e w' => (∃ X i, e = .returned (.tuple #[.pointer (some ⟨X, 0, none⟩), .nilIface]) ∧ BEnd t i ∧ SpAt w' X t (bfs t i)) ∧ Below w.heap.size w w' := by
  have hr := hs.right
  have HR := Lib.hid hr
  have HSM := Lib.hid hs
  have HT := Lib.hid ht
  have KN := Lib.hid (fun W (k : Below w.heap.size w W) => gnew_any t p W (ht.up k) hr hs.chk)
  have KR := Lib.hid (fun W (k : Below w.heap.size w W) => rnew_any t.vars p.av p.cv W (ht.vars.up k) hr.dom hr.nv)
  have KC := Lib.hid (fun W (k : Below w.heap.size w W) => ecopied_any t p W (ht.up k) hr)
  have hlb : 1 ≤ lim ∧ lim ≤ 512 := by rcases hl with h | h <;> omega
  have hd8 : decide ((lim : Int) < 1) = false := decide_eq_false (by omega)
  have hst0 := stB_P hr.init
  have HIL := Lib.hid hst0.1
  have HST0 := Lib.hid hst0
  obtain ⟨ibo, bo1, bo2, bo3, bo4⟩ := info_parts qinfBo
  obtain ⟨ied, ed1, ed2, ed3, ed4⟩ := info_parts qinfEd
  obtain ⟨pav, pai, pag, pao, pcv, pci, pcg, pco⟩ := p
  unfold TaskV at KN KC
  unfold TaskV
  dsimp only at KN KC KR
  dsimp only
  clear ht hs hr hst0
  go_enter Tryz.func6, Tryz.ntmps6
  go_wp2_with fail
  refine (KN.out _ (by repeat (first | exact Below.refl _ _ | refine below_dN ?_ _ | refine Below.drew ?_ | refine Below.alloc ?_ (by first | omega | (simp; done) | (simp; omega)) _ | refine Below.setCell ?_ (by first | omega | (simp; done) | (simp; omega)) _ | refine below_step (by assumption) (by first | omega | (simp; done) | (simp; omega)) ?_))).mono ?_
  rintro e w1 ⟨⟨G, rfl, hg⟩, hb1⟩
  have HB1 := Lib.hid (show Below w.heap.size w w1 from below_step hb1 (show w.heap.size ≤ _ by simp) (show Below w.heap.size w _ by repeat (first | exact Below.refl _ _ | refine below_dN ?_ _ | refine Below.drew ?_ | refine Below.alloc ?_ (by first | omega | (simp; done) | (simp; omega)) _ | refine Below.setCell ?_ (by first | omega | (simp; done) | (simp; omega)) _ | refine below_step (by assumption) (by first | omega | (simp; done) | (simp; omega)) ?_)))
  have HX2 := Lib.hid ((BxI.new w 26 #[.slice pav t.vars.length pcv, .slice pai t.init.length pci, .slice pag t.goal.length pcg, .slice pao t.ops.length pco]).up hb1)
  have HGA := Lib.hid hg
  have hz1 : w.heap.size + 1 ≤ w1.heap.size := by have := hb1.size; simpa using this
  clear hb1 hg
  go_upto_region 4 with fail
  go_cut [1] (fun v1 wx => v1 = .int .i64 (lim : Nat) ∧ wx = w1)
  case first =>
    rcases hl with rfl | rfl
    all_goals
      go_wp2
      go_meet
      exact ⟨rfl, by first | rfl | trivial⟩
  case rest =>
  obtain ⟨rfl, hwc⟩ := hcut
  have hwc := hwc.symm
  subst hwc
  have y0 := HX2.out.cell 0 _ rfl
  have hx2l := HX2.out.lt
  go_wp2_with fail
  refine (KR.out w1 HB1.out).mono ?_
  rintro e w2 ⟨⟨R, q, mb, B, rfl, hB, hreg⟩, hb2⟩
  have HB2 := Lib.hid hb2
  have HREG := Lib.hid (show RegC w2 B R q mb (.slice none 0 0) #[] (pkF t) (pkN t) [] [] (fun _ => 0) from hreg)
  have hz2 := hb2.size
  have HW2 := Lib.hid (HB1.out.trans (hb2.mono (by omega)))
  have HX22 := Lib.hid (HX2.out.up hb2)
  have y1 := HX22.out.cell 1 _ rfl
  have hx22 := HX22.out.lt
  have hIn := Lib.hid (HT.out.init.up HW2.out)
  clear hb2 hreg y0
  have KA := Lib.hid (radd2_any HR.out HREG.out ⟨List.nodup_nil, fun s hs => by cases hs⟩ t.init pai pci hIn.out HST0.out (by simp))
  go_wp2_with fail
  refine KA.out.mono ?_
  rintro e w3 ⟨fr, RE, es, L, wb, rfl, hk3, hreg3, hrow3, _, _⟩
  have HK3 := Lib.hid hk3
  have HREG3 := Lib.hid hreg3
  have HL3 := Lib.hid (HREG.out.below hk3)
  have hz3 := hk3.size
  have hBs : B ≤ w2.heap.size := Nat.le_trans HREG.out.ge.1 (Nat.le_of_lt HREG.out.box.lt)
  have HX23 := Lib.hid (HX22.out.low HL3.out (by omega))
  have HW3 := Lib.hid (HW2.out.trans (HL3.out.mono (by omega)))
  have y0 := HX23.out.cell 0 _ rfl
  have y2 := HX23.out.cell 2 _ rfl
  have y3 := HX23.out.cell 3 _ rfl
  have y1 := HX23.out.cell 1 _ rfl
  have hx23 := HX23.out.lt
  clear hk3 hreg3 hrow3 KA
  go_wp2_with fail
  refine (KC.out w3 HW3.out).mono ?_
  rintro e w4 ⟨⟨pt, rfl, hpt⟩, hb4⟩
  obtain ⟨qav, qai, qag, qao, qcv, qci, qcg, qco⟩ := pt
  dsimp only
  have HPT := Lib.hid hpt
  have HB4 := Lib.hid hb4
  have hz4 := hb4.size
  clear hpt hb4 y0 y1 y2 y3
  go_upto_region 14 with fail
  obtain ⟨w5, hw5⟩ : ∃ W, W = w4.alloc (.cells #[.slice qav t.vars.length qcv, .slice qai t.init.length qci, .slice qag t.goal.length qcg, .slice qao t.ops.length qco, .pointer (some ⟨R, 0, none⟩), .slice none 0 0, .slice none 0 0, .slice none 0 0, .slice none 0 0, .slice none 0 0] 76) := ⟨_, rfl⟩
  rw [← hw5]
  obtain ⟨X, hX⟩ : ∃ X, X = w4.heap.size := ⟨_, rfl⟩
  rw [← hX]
  have HBX := Lib.hid (show BxI w5 X 76 #[.slice qav t.vars.length qcv, .slice qai t.init.length qci, .slice qag t.goal.length qcg, .slice qao t.ops.length qco, .pointer (some ⟨R, 0, none⟩), .slice none 0 0, .slice none 0 0, .slice none 0 0, .slice none 0 0, .slice none 0 0] by rw [hw5, hX]; exact BxI.new _ _ _)
  have HB45 := Lib.hid (show Below w4.heap.size w4 w5 by rw [hw5]; exact (Below.refl _ _).alloc (Nat.le_refl _) _)
  have HB35 := Lib.hid (HB4.out.trans (HB45.out.mono hz4))
  have HEX := Lib.hid (show ExI w5 w2 w4 w3.heap.size B X R q mb t ⟨qav, qai, qag, qao, qcv, qci, qcg, qco⟩ (adS [] t.init) [] [] RE es L wb none 0 none 0 from
    { reg := HREG3.out.keep (Kb.of_below (bad := fun _ => False) HB35.out) (fun _ hc => hc.elim) (fun _ hc => hc.elim) (fun _ hc => hc.elim), box := HBX.out, ed := World.ownsRow_nil _ _ _ _, go := World.ownsRow_nil _ _ _ _, low := HL3.out.trans (HB35.out.mono (by omega)), kc := Kb.of_below HB45.out, rw := fun b _ hr => (HREG3.out.types hr).2.1, xge := by omega, bx := by omega })
  have HGB := Lib.hid (show GenB w2 B G t from ⟨w1, HGA.out, hB, HB2.out⟩)
  have hXr := HX22.out.lt
  clear hw5 hX
  go_wp2_with fail
  go_loopw [13] (fun v13 wr => ∃ (i : Nat) (gs : List Bool) (RE : Value) (es : Array MapEntry) (L : List (Int × Int × Int)) (wb : Nat → Nat) (EA : Option Addr) (EC : Nat) (GA : Option Addr) (GC : Nat), v13 = .int .i64 i ∧ i ≤ (bfs t i).1.length ∧ Hid (∀ k, k < i → k < (bfs t k).1.length) ∧ gs.length = i ∧ Hid (ExI wr w2 w4 w3.heap.size B X R q mb t ⟨qav, qai, qag, qao, qcv, qci, qcg, qco⟩ (bfs t i).1 (bfs t i).2 gs RE es L wb EA EC GA GC)) (fun v _ => 600 - (RowKit.intOf v).toNat)
  case atStart =>
    obtain ⟨e1, e2⟩ := bfs_zero t
    exact ⟨0, [], RE, es, L, wb, none, 0, none, 0, rfl, Nat.zero_le _, Lib.hid (fun k hk => absurd hk (Nat.not_lt_zero _)), rfl, by rw [e1, e2]; exact HEX⟩
  case round =>
    obtain ⟨i, gs, RE, es, L, wb, EA, EC, GA, GC, rfl, hi, HBF, hgl, HEI⟩ := hrel
    have HINV := Lib.hid (bfs_inv HR.out i HBF.out)
    obtain ⟨S, hS⟩ : ∃ S, S = (bfs t i).1 := ⟨_, rfl⟩
    obtain ⟨Ed, hEd⟩ : ∃ E, E = (bfs t i).2 := ⟨_, rfl⟩
    rw [← hS, ← hEd] at HEI
    rw [← hS] at hi
    have HSS := Lib.hid hS
    have HEE := Lib.hid hEd
    have HOKS := Lib.hid (show BOk t S from hS ▸ HINV.out.ok)
    have hS512 : S.length ≤ 512 := HOKS.out.len HR.out HSM.out.many
    obtain ⟨wt, rfl⟩ : ∃ wt : World, wt = wr := ⟨_, rfl⟩
    have HLen := Lib.hid (fun W (k : Below wt.heap.size wt W) => rlen_any (HEI.out.up k).reg)
    have HGr := Lib.hid (HGB.out.low HEI.out.low)
    have hbz := HEI.out.bsz
    have HGLN := Lib.hid hgl
    have hgs5 : gs.length ≤ 512 := by omega
    clear hS hEd hgl
    go_wp2_with fail
    refine (HLen.out _ (by repeat (first | exact Below.refl _ _ | refine below_dN ?_ _ | refine Below.drew ?_ | refine Below.alloc ?_ (by first | omega | (simp; done) | (simp; omega)) _ | refine Below.setCell ?_ (by first | omega | (simp; done) | (simp; omega)) _ | refine below_step (by assumption) (by first | omega | (simp; done) | (simp; omega)) ?_))).mono ?_
    rintro e w6 ⟨rfl, hb6⟩
    have HB6 := Lib.hid (show Below wt.heap.size wt w6 from below_step hb6 (show wt.heap.size ≤ _ by simp) (show Below wt.heap.size wt _ by repeat (first | exact Below.refl _ _ | refine below_dN ?_ _ | refine Below.drew ?_ | refine Below.alloc ?_ (by first | omega | (simp; done) | (simp; omega)) _ | refine Below.setCell ?_ (by first | omega | (simp; done) | (simp; omega)) _ | refine below_step (by assumption) (by first | omega | (simp; done) | (simp; omega)) ?_)))
    have HE6 := Lib.hid (HEI.out.up HB6.out)
    have hz6 := HB6.out.size
    clear hb6
    by_cases hlt : i < S.length
    · have hd6 : decide ((i : Int) < (S.length : Int)) = true := decide_eq_true (by omega)
      obtain ⟨s, hs⟩ : ∃ s, s = stI S i := ⟨_, rfl⟩
      have hsB : stB t.vars s = true := by rw [hs]; exact HOKS.out.st _ (stI_mem hlt)
      have HSP := Lib.hid (stB_P hsB)
      have HSI := Lib.hid hs
      have KST := rstate_any HE6.out.reg i hlt
      rw [pkF_len, ← hs] at KST
      have HKS := Lib.hid KST
      clear KST hs hsB
      go_wp2_with fail
      refine HKS.out.mono ?_
      rintro e w7 ⟨⟨g7, rfl, hg7, hx7⟩, hb7⟩
      have HB7 := Lib.hid hb7
      have HE7 := Lib.hid (HE6.out.up hb7)
      have hz7 := hb7.size
      have HI7 := Lib.hid (show IntsAt w7 w7.heap.size (some ⟨g7, 0, none⟩) s from ⟨by have := HSP.out.1; have := HR.out.nv; omega, fun _ => ⟨g7, 0, rfl, hx7.lt, fun k hk => by rw [Nat.zero_add]; exact hx7.cell k _ (by have := ic_get hk; simpa using this)⟩⟩)
      have hX7lt := HE7.out.box.lt
      have y6 := HE7.out.box.cell 6 _ rfl
      have HX27 := Lib.hid (HX22.out.low HE7.out.low (by omega))
      have hsl := Lib.hid (show s.length = t.vars.length from HSP.out.1)
      have HXS := Lib.hid hx7
      have HW7 := Lib.hid (show Below w.heap.size w w7 from HW2.out.trans (HE7.out.low.mono (by omega)))
      have KH : ∀ W, Below w7.heap.size w7 W → Calls Tryz.prog 28 #[.slice pag t.goal.length pcg, .slice (some ⟨g7, 0, none⟩) t.vars.length t.vars.length] W fun e w' => e = .returned (.bool (hoB t.goal s)) ∧ Below W.heap.size W w' := fun W kb => by
        have := holds_any t.goal s pag (some ⟨g7, 0, none⟩) pcg t.vars.length W ((HT.out.goal.up HW7.out).up kb) (HI7.out.up kb)
        rw [hsl.out] at this
        exact this
      have HKH := Lib.hid KH
      have hx2l7 := HX27.out.lt
      have HS20 := Lib.hid (show ∀ w' : World, Below w7.heap.size w7 w' → w'.cell? ⟨X, 6, none⟩ = some (.slice GA gs.length GC) ∧ w'.cell? ⟨w.heap.size, 2, none⟩ = some (.slice pag t.goal.length pcg) from fun w' kb => ⟨(HE7.out.box.up kb).cell 6 _ rfl, (HX27.out.up kb).cell 2 _ rfl⟩)
      obtain ⟨gb, hgb⟩ : ∃ b, b = hoB t.goal s := ⟨_, rfl⟩
      rw [← hgb] at HKH
      obtain ⟨gn, hgn⟩ : ∃ x, x = gs.length := ⟨_, rfl⟩
      rw [← hgn] at HS20 hgs5
      have HGN := Lib.hid hgn
      have hbX := HE7.out.bx
      clear hb7 hx7 hd6 KH hgb hgn y6
      go_wp2_with fail
      refine wp_region_G 10 (fun w' => w'.cell? ⟨X, 6, none⟩ = some (.slice GA gn GC) ∧ w'.cell? ⟨w.heap.size, 2, none⟩ = some (.slice pag t.goal.length pcg)) (by kernel_rfl) (HS20.out _ (by repeat (first | exact Below.refl _ _ | refine below_dN ?_ _ | refine Below.drew ?_ | refine Below.alloc ?_ (by first | omega | (simp; done) | (simp; omega)) _ | refine Below.setCell ?_ (by first | omega | (simp; done) | (simp; omega)) _ | refine below_step (by assumption) (by first | omega | (simp; done) | (simp; omega)) ?_))) ?_
      intro hG0
      refine wpS1 0 hG0 ?_; intro hG1; clear hG0
      refine wpS1 1 hG1 ?_; intro hG2; clear hG1
      refine wpS1 2 hG2 ?_; intro hG3; clear hG2
      refine wpS1 3 hG3 ?_; intro hG4; clear hG3
      refine wpS2 4 hG4 ?_; intro hG5; clear hG4
      refine wpS1 5 hG5 ?_; intro hG6; clear hG5
      refine wpS2 6 hG6 ?_; intro hG7; clear hG6
      refine wpS1 7 hG7 ?_; intro hG8; clear hG7
      refine wpAnyG_ready (rs := [8]) (by kernel_rfl) (by simp) (AllG.cons rfl hG8 (fun K hK => ?_) AllG.nil)
      (go_simp; go_at_call 28; refine (HKH.out _ (by repeat (first | exact Below.refl _ _ | refine below_dN ?_ _ | refine Below.drew ?_ | refine Below.alloc ?_ (by first | omega | (simp; done) | (simp; omega)) _ | refine Below.setCell ?_ (by first | omega | (simp; done) | (simp; omega)) _ | refine below_step (by assumption) (by first | omega | (simp; done) | (simp; omega)) ?_))).mono ?_; rintro e w8 ⟨rfl, hb8⟩; have HB8 := Lib.hid (show Below w7.heap.size w7 w8 from below_step hb8 (show w7.heap.size ≤ _ by simp) (show Below w7.heap.size w7 _ by repeat (first | exact Below.refl _ _ | refine below_dN ?_ _ | refine Below.drew ?_ | refine Below.alloc ?_ (by first | omega | (simp; done) | (simp; omega)) _ | refine Below.setCell ?_ (by first | omega | (simp; done) | (simp; omega)) _ | refine below_step (by assumption) (by first | omega | (simp; done) | (simp; omega)) ?_))); have HE8 := Lib.hid (HE7.out.up HB8.out); have hz8 := HB8.out.size; have HO8 := HE8.out.go; rw [← HGN.out] at HO8; have HO8 := Lib.hid HO8; have hX8 := HE8.out.box.lt; clear hb8)
      refine hK.out _ _ (Or.inr (HS20.out _ HB8.out)) (fun hG9 => wpN ?_); clear hK hG8
      refine wpAnyG_ready (rs := [9]) (by kernel_rfl) (by simp) (AllG.cons rfl hG9 (fun K hK => ?_) AllG.nil)
      (go_simp)
      refine hK.out _ _ (Or.inr (HS20.out _ (HB8.out.trans (Below.mono (by repeat (first | exact Below.refl _ _ | refine below_dN ?_ _ | refine Below.drew ?_ | refine Below.alloc ?_ (by first | omega | (simp; done) | (simp; omega)) _ | refine Below.setCell ?_ (by first | omega | (simp; done) | (simp; omega)) _ | refine below_step (by assumption) (by first | omega | (simp; done) | (simp; omega)) ?_)) hz8)))) (fun hG10 => wpN ?_); clear hK hG9
      refine wpAnyG_ready (rs := [10]) (by kernel_rfl) (by simp) (AllG.cons rfl hG10 (fun K hK => ?_) AllG.nil)
      (refine step_append_src (by rfl) _ _ 74 (by rfl) (X + 1) 4 ibo (.bool false) 1 1 qundBo bo1 bo2 bo3 bo4 rfl (by decide) (.slice GA gn GC) gn (blC gs) (by rfl) (by exact HO8.out.alloc _) (some ⟨w8.heap.size, 0, none⟩) 1 1 [.bool gb] (by rfl) (src_of (heap_alloc_new w8 _) rfl (by intro u hu; simp at hu; subst hu; rfl)) (by unfold maxLen; omega) (by omega) (by first | omega | (simp; done) | (simp; omega)) ?_; intro v10 w10 hown10 hgrow10 hat10; obtain ⟨A10, c10, rfl⟩ := own_shape hown10; have HO10 := Lib.hid hown10; have HG10 := Lib.hid hgrow10; have HX10 := Lib.hid ((HE8.out.box.up (show Below w8.heap.size w8 _ by repeat (first | exact Below.refl _ _ | refine below_dN ?_ _ | refine Below.drew ?_ | refine Below.alloc ?_ (by first | omega | (simp; done) | (simp; omega)) _ | refine Below.setCell ?_ (by first | omega | (simp; done) | (simp; omega)) _ | refine below_step (by assumption) (by first | omega | (simp; done) | (simp; omega)) ?_))).grown hgrow10 (fun e => own_ne_box HO8.out HE8.out.box (by decide) _ e.symm rfl)); clear hown10 hgrow10 hat10)
      refine hK.out _ _ (Or.inl rfl) (fun hG11 => wpN ?_); clear hK hG10
      refine wpS1 11 hG11 ?_; intro hG12; clear hG11
      refine wpS1 12 hG12 ?_; intro hG13; clear hG12
      refine wpAnyG_ready (rs := [13]) (by kernel_rfl) (by simp) (AllG.cons rfl hG13 (fun K hK => ?_) AllG.nil)
      (refine step_store1 (by rfl) 74 _ _ (by rfl) X 6 (.slice A10 (gn + 1) c10) (by rfl) (by rfl) (by rfl) (there_blk HX10.out (by simp)) (by kernel_rfl) rfl ?_; intro wG HWG)
      refine hK.out _ _ (Or.inl rfl) (fun hG14 => wpN ?_); clear hK hG13
      refine wpAnyG_done (by kernel_rfl) ?_ _; clear hG14
      have hgw : (w8.alloc (.cells #[.bool gb] 4)).grownBy w10 (Value.slice GA gs.length GC).ownBlock := by
        rw [← HGN.out]
        exact ⟨HG10.out.os, HG10.out.tape, HG10.out.output, HG10.out.size, HG10.out.block⟩
      have HEG := HE8.out.goal hgw (b := gb) (A' := A10) (c' := c10) (by rw [← HGN.out]; exact HO10.out)
      rw [← HGN.out] at HEG
      have KGX := kb_set (w := w10) (p := ⟨X, 6, none⟩) (.slice A10 (gn + 1) c10)
      have HXS8 := HXS.out.up HB8.out
      have hgX : ¬ g7 = X := fun e => by
        have h1 := HXS8; have h2 := HE8.out.box
        unfold BxI at h1 h2
        rw [e, h2] at h1; simp at h1
      have HXS10 := (((HXS8.up (show Below w8.heap.size w8 (w8.alloc (.cells #[.bool gb] 4)) from (Below.refl _ _).alloc (Nat.le_refl _) _)).grown hgw (fun e => own_ne_box HE8.out.go HXS8 (by decide) _ e.symm rfl)).kb KGX hgX)
      rw [← HWG.out] at HEG HXS10
      have HEG := Lib.hid HEG
      have HIG := Lib.hid (show IntsAt wG wG.heap.size (some ⟨g7, 0, none⟩) s from ⟨by have := HSP.out.1; have := HR.out.nv; omega, fun _ => ⟨g7, 0, rfl, HXS10.lt, fun k hk => by rw [Nat.zero_add]; exact HXS10.cell k _ (by have := ic_get hk; simpa using this)⟩⟩)
      have KS := gsucc_any t G s (some ⟨g7, 0, none⟩) t.vars.length wG ((HGB.out.low HEG.out.low).at_) HR.out HIG.out HSP.out
      rw [hsl.out] at KS
      obtain ⟨n, hn⟩ : ∃ n, n = (ops1 t s).length := ⟨_, rfl⟩
      rw [← hn] at KS
      have HN := Lib.hid hn
      have hn20 : n ≤ 20 := by rw [hn]; exact Nat.le_trans (ops1_len t s) HSM.out.no
      have HKS2 := Lib.hid KS
      have hXG := HEG.out.box.lt
      clear hgw KGX HXS8 HXS10 hgX KS hn
      go_wp2_with fail
      refine HKS2.out.mono ?_
      rintro e wS ⟨⟨SA, SC, rfl, hsuc⟩, hbS⟩
      have HSUC := Lib.hid hsuc
      have HBS := Lib.hid hbS
      have HES := Lib.hid (HEG.out.up hbS)
      have hzS := hbS.size
      clear hsuc hbS
      go_wp2_with fail
      go_loopw [92] (fun v92 wr => ∃ (j : Nat) (RE : Value) (es : Array MapEntry) (L : List (Int × Int × Int)) (wb : Nat → Nat) (EA : Option Addr) (EC : Nat), v92 = .int .i64 j ∧ j ≤ n ∧ Hid (ExI wr w2 w4 w3.heap.size B X R q mb t ⟨qav, qai, qag, qao, qcv, qci, qcg, qco⟩ (rnd t i s (S, Ed) j).1 (rnd t i s (S, Ed) j).2 (gs ++ [gb]) RE es L wb EA EC A10 c10) ∧ Hid (Kb (fun b => b < wG.heap.size) wS wr) ∧ Hid (∀ b, b < wS.heap.size → RegOwn R mb RE es b → b < wG.heap.size) ∧ Hid (∀ b, b < wS.heap.size → (Value.slice EA (rnd t i s (S, Ed) j).2.length EC).ownBlock = some b → b < wG.heap.size)) (fun v _ => n - (RowKit.intOf v).toNat)
      case atStart => exact ⟨0, RE, es, L, wb, EA, EC, rfl, Nat.zero_le _, HES, Lib.hid (Kb.refl _ _), Lib.hid (fun b _ hr => (HEG.out.reg.types hr).2.1), Lib.hid (fun b _ hr => (HEG.out.ed.lt b hr).2)⟩
      case round =>
        obtain ⟨j, RE, es, L, wb, EA, EC, rfl, hj, HEJ, HKJ, HRJ, HAJ⟩ := hrel
        by_cases hltj : j < n
        · obtain ⟨wt2, rfl⟩ : ∃ wt2 : World, wt2 = wr := ⟨_, rfl⟩
          have hjn : j < (ops1 t s).length := by rw [← HN.out]; exact hltj
          have HKG := HKJ.out
          obtain ⟨sb, rfl, hsb, hsc⟩ := HSUC.out wt2 HKG (by rw [← HN.out]; omega)
          obtain ⟨i0, sA', sC', i1, hIA⟩ := hsc j hjn
          obtain ⟨o, ho⟩ : ∃ o, o = opN (ops1 t s) j := ⟨_, rfl⟩
          rw [← ho] at i0 hIA
          have hol : o < t.ops.length := by rw [ho]; exact (opN_lt hjn).1
          have HOO := Lib.hid ho
          obtain ⟨nx, hnx⟩ : ∃ x, x = nxt t s o := ⟨_, rfl⟩
          rw [← hnx] at hIA
          have hnxl : nx.length = s.length := by rw [hnx]; exact nxt_len _ _ _
          have hnxB : stB t.vars nx = true := by rw [hnx]; exact st_nxtW HR.out (stP_B HSP.out) hol
          have HNX := Lib.hid hnx
          have HINJ := Lib.hid (show BInv t (rnd t i s (S, Ed) j) from (rnd_inv (X := (S, Ed)) HR.out (by rw [show ((S, Ed) : BS) = bfs t i from Prod.ext HSS.out HEE.out]; exact HINV.out) hlt (stP_B HSP.out) j (by omega)).1)
          have HSTP := Lib.hid (stB_P hnxB)
          obtain ⟨S', hS'⟩ : ∃ x, x = (rnd t i s (S, Ed) j).1 := ⟨_, rfl⟩
          obtain ⟨E', hE'⟩ : ∃ x, x = (rnd t i s (S, Ed) j).2 := ⟨_, rfl⟩
          have HOKJ := Lib.hid (show BOk t S' from hS' ▸ HINJ.out.ok)
          have hS'5 : S'.length ≤ 512 := HOKJ.out.len HR.out HSM.out.many
          have HOKN := Lib.hid (show BOk t (adS S' nx) from adS_ok HOKJ.out hnxB)
          have hidl : idS S' nx < lim := by
            have h1 := idS_lt S' nx
            have h2 := HOKN.out.lenP HR.out
            omega
          have hdl : decide ((lim : Int) ≤ ((idS S' nx : Nat) : Int)) = false := decide_eq_false (by omega)
          have HE'5 := Lib.hid (show E'.length ≤ 512 * 20 + 20 from by
            rw [hE', rnd_elen t i s (S, Ed) j (by omega)]
            have h1 := bfs_elen t i
            have h2 := HSM.out.no
            have h3 : i * t.ops.length ≤ 512 * 20 := Nat.mul_le_mul (by omega) h2
            show Ed.length + j ≤ _
            rw [HEE.out]
            omega)
          rw [← hS', ← hE'] at HEJ
          rw [← hE'] at HAJ
          have HSJ := Lib.hid hS'
          have HEJ2 := Lib.hid hE'
          clear hsc ho hnx hS' hE' HKG
          go_upto_region 24 with fail
          obtain ⟨wb1, hwb1⟩ : ∃ W, W = wt2.alloc (.cells #[.int .i64 o, .slice sA' s.length sC'] 57) := ⟨_, rfl⟩
          rw [← hwb1]
          have HXb := Lib.hid (show BxI wb1 wt2.heap.size 57 #[.int .i64 o, .slice sA' s.length sC'] by rw [hwb1]; exact BxI.new _ _ _)
          have HBb := Lib.hid (show Below wt2.heap.size wt2 wb1 by rw [hwb1]; exact (Below.refl _ _).alloc (Nat.le_refl _) _)
          have HEb := Lib.hid (HEJ.out.up HBb.out)
          have hzb := HBb.out.size
          have z1 := HXb.out.cell 1 _ rfl
          have hxbl := HXb.out.lt
          have KA := radd2_any HR.out HEb.out.reg HOKJ.out nx sA' sC' (hIA.up HBb.out) HSTP.out (by omega)
          rw [hnxl] at KA
          have HKA := Lib.hid KA
          clear hwb1 KA hnxl i0 i1 hIA
          go_wp2_with fail
          refine HKA.out.mono ?_
          rintro e w9 ⟨fr, RE', es', L', wb', rfl, hk9, hreg9, hrow9, _, _⟩
          have HE9 := Lib.hid (HEb.out.add hk9 hreg9 hrow9)
          have HX9 := Lib.hid (HXb.out.kb hk9 (HEb.out.reg.ne_box HXb.out (by decide) (by decide) (by decide)))
          have HK9 := Lib.hid (show Kb (fun b => b < wG.heap.size) wS w9 from (HKJ.out.up HBb.out).then_ hk9 (fun b hb hr => HRJ.out b hb hr))
          have hzSb := HKJ.out.size
          have HR9 := Lib.hid (show ∀ b, b < wS.heap.size → RegOwn R mb RE' es' b → b < wG.heap.size from fun b hb hr => HRJ.out b hb (hrow9 b (by omega) hr))
          clear hk9 hreg9 hrow9 z1
          obtain ⟨idn, hidn⟩ : ∃ x, x = idS S' nx := ⟨_, rfl⟩
          rw [← hidn] at hdl hidl
          rw [← hidn]
          have HIDN := Lib.hid hidn
          clear hidn
          have hdl2 : decide (lim ≤ idn) = false := decide_eq_false (by omega)
          go_upto_region 25 with fail
          go_cut [114] (fun v114 wx => v114 = .bool false ∧ wx = w9)
          case first =>
            cases fr
            all_goals
              go_wp2_with fail
              refine (errIs_nil 10 _).mono ?_
              rintro e wz ⟨rfl, hwz⟩
              subst hwz
              go_wp2_with fail
              go_meet
              exact ⟨by first | rfl | rw [hdl2] | (simp; omega), by first | rfl | trivial⟩
          case rest =>
          obtain ⟨rfl, hwc⟩ := hcut
          have hwc := hwc.symm
          subst hwc
          have HS29 := Lib.hid (show ∀ w' : World, Below w9.heap.size w9 w' → w'.cell? ⟨X, 5, none⟩ = some (.slice EA E'.length EC) ∧ w'.cell? ⟨wt2.heap.size, 0, none⟩ = some (.int .i64 o) from fun w' kb => ⟨(HE9.out.box.up kb).cell 5 _ rfl, (HX9.out.up kb).cell 0 _ rfl⟩)
          obtain ⟨en, hen⟩ : ∃ x, x = E'.length := ⟨_, rfl⟩
          have HO9 := HE9.out.ed
          rw [← hen] at HO9 HS29
          have HO9 := Lib.hid HO9
          have HEN := Lib.hid hen
          have hen5 : en ≤ 20000 := by rw [hen]; have := HE'5.out; omega
          have hX9 := HE9.out.box.lt
          have hx9l := HX9.out.lt
          have hbX9 := HE9.out.bx
          clear hen hdl
          go_wp2_with fail
          refine wp_region_G 11 (fun w' => w'.cell? ⟨X, 5, none⟩ = some (.slice EA en EC) ∧ w'.cell? ⟨wt2.heap.size, 0, none⟩ = some (.int .i64 o)) (by kernel_rfl) (HS29.out _ (by repeat (first | exact Below.refl _ _ | refine below_dN ?_ _ | refine Below.drew ?_ | refine Below.alloc ?_ (by first | omega | (simp; done) | (simp; omega)) _ | refine Below.setCell ?_ (by first | omega | (simp; done) | (simp; omega)) _ | refine below_step (by assumption) (by first | omega | (simp; done) | (simp; omega)) ?_))) ?_
          intro hG0
          refine wpS1 0 hG0 ?_; intro hG1; clear hG0
          refine wpS1 1 hG1 ?_; intro hG2; clear hG1
          refine wpS1 2 hG2 ?_; intro hG3; clear hG2
          refine wpS1 3 hG3 ?_; intro hG4; clear hG3
          refine wpS2 4 hG4 ?_; intro hG5; clear hG4
          refine wpS1 5 hG5 ?_; intro hG6; clear hG5
          refine wpS1 6 hG6 ?_; intro hG7; clear hG6
          refine wpS2 7 hG7 ?_; intro hG8; clear hG7
          refine wpS1 8 hG8 ?_; intro hG9; clear hG8
          refine wpS1 9 hG9 ?_; intro hG10; clear hG9
          refine wpAnyG_ready (rs := [10]) (by kernel_rfl) (by simp) (AllG.cons rfl hG10 (fun K hK => ?_) AllG.nil)
          (go_simp)
          refine hK.out _ _ (Or.inr (HS29.out _ (by repeat (first | exact Below.refl _ _ | refine below_dN ?_ _ | refine Below.drew ?_ | refine Below.alloc ?_ (by first | omega | (simp; done) | (simp; omega)) _ | refine Below.setCell ?_ (by first | omega | (simp; done) | (simp; omega)) _ | refine below_step (by assumption) (by first | omega | (simp; done) | (simp; omega)) ?_)))) (fun hG11 => wpN ?_); clear hK hG10
          refine wpAnyG_ready (rs := [11]) (by kernel_rfl) (by simp) (AllG.cons rfl hG11 (fun K hK => ?_) AllG.nil)
          (refine step_append_src (by rfl) _ _ 45 (by rfl) (X + 1) 64 ied (.agg #[.int .i64 0, .int .i64 0, .int .i64 0]) 3 24 qundEd ed1 ed2 ed3 ed4 rfl (by decide) (.slice EA en EC) en (edC E') (by rfl) (by exact HO9.out.alloc _) (some ⟨w9.heap.size, 0, none⟩) 1 1 [.int .i64 i, .int .i64 o, .int .i64 idn] (by rfl) (src_of (heap_alloc_new w9 _) rfl (by intro u hu; simp at hu; rcases hu with rfl | rfl | rfl <;> rfl)) (by unfold maxLen; omega) (by omega) (by first | omega | (simp; done) | (simp; omega)) ?_; intro v11 w11 hown11 hgrow11 hat11; obtain ⟨A11, c11, rfl⟩ := own_shape hown11; have HO11 := Lib.hid hown11; have HG11 := Lib.hid hgrow11; have HA11 := Lib.hid hat11; have HX11 := Lib.hid ((HE9.out.box.up (show Below w9.heap.size w9 _ by repeat (first | exact Below.refl _ _ | refine below_dN ?_ _ | refine Below.drew ?_ | refine Below.alloc ?_ (by first | omega | (simp; done) | (simp; omega)) _ | refine Below.setCell ?_ (by first | omega | (simp; done) | (simp; omega)) _ | refine below_step (by assumption) (by first | omega | (simp; done) | (simp; omega)) ?_))).grown hgrow11 (fun e => own_ne_box HO9.out HE9.out.box (by decide) _ e.symm rfl)); clear hown11 hgrow11 hat11)
          refine hK.out _ _ (Or.inl rfl) (fun hG12 => wpN ?_); clear hK hG11
          refine wpS1 12 hG12 ?_; intro hG13; clear hG12
          refine wpS1 13 hG13 ?_; intro hG14; clear hG13
          refine wpAnyG_ready (rs := [14]) (by kernel_rfl) (by simp) (AllG.cons rfl hG14 (fun K hK => ?_) AllG.nil)
          (refine step_store1 (by rfl) 45 _ _ (by rfl) X 5 (.slice A11 (en + 1) c11) (by rfl) (by rfl) (by rfl) (there_blk HX11.out (by simp)) (by kernel_rfl) rfl ?_; intro wZ HWZ)
          refine hK.out _ _ (Or.inl rfl) (fun hG15 => wpN ?_); clear hK hG14
          refine wpAnyG_done (by kernel_rfl) ?_ _; clear hG15
          go_wp2_with fail
          go_roundw
          case rel =>
            have hgw : (w9.alloc (.cells #[.int .i64 i, .int .i64 o, .int .i64 idn] 64)).grownBy w11 (Value.slice EA E'.length EC).ownBlock := by
              rw [← HEN.out]
              exact ⟨HG11.out.os, HG11.out.tape, HG11.out.output, HG11.out.size, HG11.out.block⟩
            have HEZ := HE9.out.edge hgw (a := i) (l := o) (b := idn) (A' := A11) (c' := c11) (by rw [← HEN.out]; exact HO11.out)
            rw [← HEN.out] at HEZ
            rw [← HWZ.out] at HEZ
            have hrs : rnd t i s (S, Ed) (j + 1) = (adS S' nx, E' ++ [(i, o, idn)]) := by
              rw [rnd_succ t i s (S, Ed) hjn, ← HOO.out]
              unfold stO
              rw [← HSJ.out, ← HEJ2.out, ← HNX.out, ← HIDN.out]
            have KZ1 : Kb (fun b => (Value.slice EA E'.length EC).ownBlock = some b) w9 w11 := (kb_alloc w9 _ _).trans (kb_grown hgw)
            have KZ2 := kb_set (w := w11) (p := ⟨X, 5, none⟩) (.slice A11 (en + 1) c11)
            rw [← HWZ.out] at KZ2
            have hs9 : wS.heap.size ≤ w9.heap.size := HK9.out.size
            refine ⟨j + 1, RE', es', L', wb', A11, c11, rfl, by omega, ?_, Lib.hid ((HK9.out.then_ KZ1 (fun b hb h => HAJ.out b hb h)).then_ KZ2 (fun b hb h => by have h : b = X := h; omega)), HR9, ?_⟩
            · rw [hrs]
              exact Lib.hid HEZ
            · rw [hrs]
              refine Lib.hid (fun b hb h => ?_)
              have hl2 : (E' ++ [(i, o, idn)]).length = en + 1 := by rw [List.length_append, ← HEN.out]; rfl
              have h : (Value.slice A11 (en + 1) c11).ownBlock = some b := by
                have h' := h
                simp only [] at h'
                rw [hl2] at h'
                exact h'
              rcases HA11.out with h1 | h1
              · rw [h1] at h
                exact HAJ.out b hb (by rw [← HEN.out]; exact h)
              · rw [h1] at h
                injection h with h
                have : ((w9.alloc (.cells #[.int .i64 i, .int .i64 o, .int .i64 idn] 64)).drew).heap.size = w9.heap.size + 1 := by simp
                first | omega | (simp at h; omega)
          case measure => simp [RowKit.intOf]; omega
        · obtain rfl : j = n := by omega
          go_wp2_with fail
          go_roundw
          case rel =>
            have hb1 : rnd t i s (S, Ed) j = bfs t (i + 1) := by
              rw [HN.out]
              show _ = rnd t i (stI (bfs t i).1 i) (bfs t i) (ops1 t (stI (bfs t i).1 i)).length
              rw [← HSS.out, ← HSI.out]
              congr 1
              rw [HSS.out, HEE.out]
            have hlen := (rnd_inv (X := (S, Ed)) HR.out (by rw [show ((S, Ed) : BS) = bfs t i from Prod.ext HSS.out HEE.out]; exact HINV.out) hlt (stP_B HSP.out) j (by rw [HN.out]; exact Nat.le_refl _)).2.1
            rw [hb1] at hlen HEJ
            refine ⟨i + 1, gs ++ [gb], RE, es, L, wb, EA, EC, A10, c10, rfl, by have : S.length ≤ _ := hlen; omega, Lib.hid (fun k hk => ?_), by rw [List.length_append, HGLN.out]; rfl, HEJ⟩
            by_cases e : k = i
            · subst e; rw [← HSS.out]; exact hlt
            · exact HBF.out k (by omega)
          case measure => simp [RowKit.intOf]; omega
    · obtain rfl : i = S.length := by omega
      have hd6 : decide ((S.length : Int) < (S.length : Int)) = false := decide_eq_false (by omega)
      have HEND := Lib.hid (show BEnd t S.length from ⟨by rw [← HSS.out], HBF.out⟩)
      have hS1 : 1 ≤ S.length := by
        rcases Nat.eq_zero_or_pos S.length with h0 | h0
        · have h1 := HSS.out
          rw [h0] at h1
          rw [h1] at h0
          rw [(bfs_zero t).1] at h0
          simp [adS] at h0
        · exact h0
      have hEl : Ed.length ≤ 20000 := by
        have h1 := bfs_elen t S.length
        rw [← HEE.out] at h1
        have h3 : S.length * t.ops.length ≤ 512 * 20 := Nat.mul_le_mul hS512 HSM.out.no
        omega
      have KM := Lib.hid (fun W (k : Below w6.heap.size w6 W) => measure_any (HE6.out.up k).reg (HE6.out.up k).box ((HPT.out _ (HE6.out.up k).kc)) HR.out (HE6.out.up k).ed (HE6.out.up k).go HGLN.out (fun e he => by
        have := HINV.out.ed e (by rw [← HEE.out]; exact he)
        rw [← HSS.out] at this
        exact this) hS1 hS512 hEl)
      have hz2b := HE6.out.bx
      go_wp2_with fail
      refine (KM.out _ (by repeat (first | exact Below.refl _ _ | refine below_dN ?_ _ | refine Below.drew ?_ | refine Below.alloc ?_ (by first | omega | (simp; done) | (simp; omega)) _ | refine Below.setCell ?_ (by first | omega | (simp; done) | (simp; omega)) _ | refine below_step (by assumption) (by first | omega | (simp; done) | (simp; omega)) ?_))).mono ?_
      rintro e w8 ⟨⟨rfl, c7, c8, c9, hx8⟩, hk8⟩
      have HX8 := Lib.hid hx8
      have HREG8 := Lib.hid (HE6.out.reg_far hk8 (fun b hb => by rw [hb]; exact HE6.out.bx) (fun b hb => by rw [hb]; exact HE6.out.reg.ne_box HE6.out.box (by decide) (by decide) (by decide)) (fun b hb => by rw [hb]; exact ⟨_, _, HE6.out.box, by decide⟩))
      have HED8 := Lib.hid (own_kb1 HE6.out.ed hk8 (fun g hg hc => own_ne_box HE6.out.ed HE6.out.box (by decide) g hg hc))
      have HL8 := Lib.hid (show Below w.heap.size w w8 from HW2.out.trans ((below_then HE6.out.low hk8 (fun b hb hc => by have hc : b = X := hc; omega) HE6.out.bsz).mono (by omega)))
      clear hx8 hk8
      go_wp2_with fail
      refine bodyPost_ret (v := .tuple #[.pointer (some ⟨X, 0, none⟩), .nilIface]) (by simp [results, Tryz.results6, go_sem]) rfl ?_
      refine ⟨⟨X, S.length, rfl, HEND.out, ?_⟩, HL8.out⟩
      rw [show bfs t S.length = (S, Ed) from (Prod.ext HSS.out HEE.out).symm]
      exact ⟨_, _, _, _, _, _, _, _, ⟨qav, qai, qag, qao, qcv, qci, qcg, qco⟩, _, _, _, c7, c8, c9, _, HREG8.out, HX8.out, HED8.out⟩
end Go.Proofs.YtpobnjbpglaohaaGreat
