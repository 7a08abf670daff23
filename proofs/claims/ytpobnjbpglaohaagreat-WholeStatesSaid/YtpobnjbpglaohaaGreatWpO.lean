/- registry: Add, walked. -/
import Derived.Test.YtpobnjbpglaohaaGreatWgA
import Derived.Test.YtpobnjbpglaohaaGreatWpOa
namespace Go.Proofs.YtpobnjbpglaohaaGreat
set_option linter.unusedSimpArgs false
set_option linter.unusedVariables false
open Go Go.RowKit Go.Maps
set_option linter.unusedVariables false

set_option maxRecDepth 20000 in
set_option maxHeartbeats 4000000 in
theorem radd_any {w : World} {base R p mb : Nat} {E : Value} {es : Array MapEntry} {F : List Fld} {n : Nat} {S : List (List Int)} {L : List (Int × Int × Int)} {wb : Nat → Nat} (h : RegC w base R p mb E es F n S L wb) (s : List Int) (A : Option Addr) (c : Nat) (hs : IntsAt w w.heap.size A s) (hok : StOk F s) (hsm : S.length < 60000) :
    Calls Tryz.prog 10 #[.pointer (some ⟨R, 0, none⟩), .slice A s.length c] w fun e w' =>
      (∃ i : Nat, i < S.length ∧ stI S i = s ∧ e = .returned (.tuple #[.int .i64 i, .bool false, .nilIface]) ∧ Below w.heap.size w w') ∨
      ((∀ i, i < S.length → stI S i ≠ s) ∧ e = .returned (.tuple #[.int .i64 S.length, .bool true, .nilIface]) ∧ Kb (RegOwn R mb E es) w w' ∧
        ∃ E' es' wb', RegC w' base R p mb E' es' F n (S ++ [s]) (L ++ [(-1, -1, 0)]) wb' ∧ (∀ b, b < w.heap.size → RegOwn R mb E' es' b → RegOwn R mb E es b) ∧ (∀ i, i < S.length → wb' i = wb i) ∧ w.heap.size ≤ wb' S.length) := by
  obtain ⟨inf, hi0, iz0, iz1, iz2⟩ := info_parts qinfEn
  obtain ⟨EA, EC, rfl⟩ := h.shapeE
  have HR := Lib.hid h
  have HOK := Lib.hid hok
  have KF := Lib.hid (fun W (k : Below w.heap.size w W) => rfind_any (HR.out.keep (Kb.of_below (bad := fun _ => False) k) (fun _ hc => hc.elim) (fun _ hc => hc.elim) (fun _ hc => hc.elim)) s A c (hs.keep (fun q hq => k.cell hq) k.size) hok)
  clear h hs hok
  go_enter Tryz.func10, Tryz.ntmps10
  go_wp2_with fail
  refine (KF.out _ (by repeat (first | exact Below.refl _ _ | refine below_dN ?_ _ | refine Below.drew ?_ | refine Below.alloc ?_ (by first | omega | (simp; done) | (simp; omega)) _ | refine Below.setCell ?_ (by first | omega | (simp; done) | (simp; omega)) _ | refine below_step (by assumption) (by first | omega | (simp; done) | (simp; omega)) ?_))).mono ?_
  rintro e w1 ⟨⟨g, r, rfl, hfi, hg, hx⟩, hb1⟩
  have HB1 := Lib.hid (show Below w.heap.size w w1 from below_step hb1 (show w.heap.size ≤ _ by simp) (show Below w.heap.size w _ by repeat (first | exact Below.refl _ _ | refine below_dN ?_ _ | refine Below.drew ?_ | refine Below.alloc ?_ (by first | omega | (simp; done) | (simp; omega)) _ | refine Below.setCell ?_ (by first | omega | (simp; done) | (simp; omega)) _ | refine below_step (by assumption) (by first | omega | (simp; done) | (simp; omega)) ?_)))
  have HX := Lib.hid hx
  have HG := Lib.hid (show w.heap.size ≤ g from Nat.le_trans (by simp) hg)
  have HR1 := Lib.hid (HR.out.keep (Kb.of_below (bad := fun _ => False) HB1.out) (fun _ hc => hc.elim) (fun _ hc => hc.elim) (fun _ hc => hc.elim))
  clear hx hg hb1
  rcases hfi with ⟨i, hi, hsi, rfl⟩ | ⟨hno, rfl⟩
  · go_wp2
    refine bodyPost_ret (v := .tuple #[.int .i64 i, .bool false, .nilIface]) (by simp [results, Tryz.results10, go_sem, ↓IntWalk.iteOmega, *]) rfl (.inl ⟨i, hi, hsi, rfl, HB1.out⟩)
  · have HNO := Lib.hid hno
    clear hno
    obtain ⟨hq, hhq⟩ : ∃ x, x = hashW (wdsOf F n s) := ⟨_, rfl⟩
    have HHQ := Lib.hid hhq
    rw [← hhq]
    clear hhq
    have c1 := HR1.out.box.cell 1 _ rfl
    have hd : decide ((65536 : Int) ≤ (S.length : Int)) = false := decide_eq_false (by omega)
    have hbase : base ≤ w1.heap.size := Nat.le_trans HR1.out.ge.1 (Nat.le_of_lt HR1.out.box.lt)
    have hgn : g < w1.heap.size := HX.out.lt
    go_upto_region 11 with fail
    go_wp2_with (first
      | (at_builtin; refine wpList_append_src (by rfl) _ _ 85 (by rfl) base 98 inf (.agg #[.slice none 0 0, .int .i64 0, .int .i64 0, .int .i64 0]) 4 48 qundEn hi0 iz0 iz1 iz2 rfl (by decide) (.slice EA S.length EC) S.length (entC n wb L 0) (by rfl) (by exact HR1.out.ents.alloc _) (some ⟨w1.heap.size, 0, none⟩) 1 1 [.slice (some ⟨g, 0, none⟩) n n, .int .i64 (-1), .int .i64 (-1), .int .i64 0] (by rfl) (src_of (heap_alloc_new w1 _) rfl (four_one rfl rfl rfl rfl)) (by unfold maxLen; omega) (by omega) (by first | omega | (simp; done) | (simp; omega)) ?_; intro v9 w9 hown9 hgrow9 hat9; obtain ⟨A9, c9, rfl⟩ := own_shape hown9; have hsz9 := hgrow9.size; have HX9 := Lib.hid (show BxI w9 R 87 #[.pointer (some ⟨p, 0, none⟩), .slice EA S.length EC, .map (some mb)] from (HR1.out.box.kb (kb_alloc w1 _ (fun _ => False)) (fun h => h.elim)).grown hgrow9 (fun e => (HR1.out.farE e.symm).1 rfl)); have HO9 := Lib.hid hown9; have HG9 := Lib.hid hgrow9; have HA9 := Lib.hid hat9; clear hown9 hgrow9 hat9)
      | (refine wpList_store1 (by rfl) 85 _ _ (by rfl) R 1 (.slice A9 (S.length + 1) c9) (by rfl) (by rfl) (by rfl) (there_blk HX9.out (by simp)) (by kernel_rfl) rfl ?_; intro wy HWY))
    have HBY := Lib.hid (show BxI wy R 87 #[.pointer (some ⟨p, 0, none⟩), .slice A9 (S.length + 1) c9, .map (some mb)] by rw [HWY.out]; exact HX9.out.set 1 _)
    obtain ⟨clock, hm1⟩ := HR1.out.map
    have hwf := HHQ.out ▸ hash_wf (wdsOf F n s)
    obtain ⟨v, hv, hlk1⟩ := tab_look hm1 HR1.out.tab hwf
    have HV := Lib.hid hv
    have HROW1 := HR1.out.rows _ v hv
    obtain ⟨VA, VC, rfl⟩ := own_shape HROW1
    have hmlt : mb < w1.heap.size := (Array.getElem?_eq_some_iff.1 hm1).1
    have hszy : w9.heap.size = wy.heap.size := by rw [HWY.out]; simp [World.setCell]
    have hszo : w1.heap.size + 1 ≤ w9.heap.size := by simpa using hsz9
    have HMY := Lib.hid (show wy.heap[mb]? = some (.map es clock) by
      rw [HWY.out]
      exact (Below.heap_setCell _ _ _ _ (fun e => HR1.out.farR.1 e.symm)).trans ((HG9.out.block mb (by simp; omega) (fun e => (HR1.out.farE e.symm).2.1 rfl)).trans ((kb_alloc w1 _ (fun _ => False)).block mb hmlt (fun h => h) |>.trans hm1)))
    have HROWy := Lib.hid (show wy.ownsRow base 3 1 (.slice VA (idsH F n S hq).length VC) (idsH F n S hq).length (ic (idsH F n S hq)) by
      rw [HWY.out]
      refine own_kb1 (own_kb1 HROW1 ((kb_alloc w1 _ _).trans (kb_grown HG9.out)) (fun b hb e => ?_)) (kb_set (p := ⟨R, 1, none⟩) _) (fun b hb e => ?_)
      · exact (HR1.out.farE e).2.2.1 hq _ hv hb
      · exact HR1.out.farR.2.1 hq _ hv (hb.trans (congrArg some e)))
    have HLK := Lib.hid (fun (W : World) (hb : Below wy.heap.size wy W) => show (Instr.lookup 84 (.map (some mb)) (.int .i64 hq) false).run Tryz.prog W = .ok (.slice VA (idsH F n S hq).length VC) W from by
      obtain ⟨v', hv', hl⟩ := tab_look ((hb.block mb (by omega)).trans HMY.out) HR1.out.tab hwf
      rw [IsAt.uni HR1.out.tab hv hv']
      exact hl)
    have HWF := Lib.hid hwf
    obtain ⟨m, hmm⟩ : ∃ x, x = (idsH F n S hq).length := ⟨_, rfl⟩
    have HM := Lib.hid hmm
    have hml := ids_len F n S hq
    rw [← hmm] at HLK HROWy HV hml
    obtain ⟨ii, hi1, iq0, iq1, iq2⟩ := info_parts infoI
    have HSY := Lib.hid (show ∀ w' : World, Below wy.heap.size wy w' → w'.cell? ⟨R, 2, none⟩ = some (.map (some mb)) from fun w' hb => (HBY.out.up hb).cell 2 _ rfl)
    have hblt : base ≤ wy.heap.size := by omega
    have HVR := Lib.hid (show (Value.slice VA m VC).ownBlock ≠ some R from HR1.out.farR.2.1 hq _ HV.out)
    have HVM := Lib.hid (show (Value.slice VA m VC).ownBlock ≠ some mb from HR1.out.farM.1 hq _ HV.out)
    have hRlt : R < wy.heap.size := HBY.out.lt
    clear hlk1 hm1 hwf hmm hv HROW1 c1
    refine wp_region_G 14 (fun w' => w'.cell? ⟨R, 2, none⟩ = some (.map (some mb))) (by kernel_rfl) (HSY.out _ (by repeat (first | exact Below.refl _ _ | refine below_dN ?_ _ | refine Below.drew ?_ | refine Below.alloc ?_ (by first | omega | (simp; done) | (simp; omega)) _ | refine Below.setCell ?_ (by first | omega | (simp; done) | (simp; omega)) _ | refine below_step (by assumption) (by first | omega | (simp; done) | (simp; omega)) ?_))) ?_
    intro hG0
    refine wpS1 0 hG0 ?_; intro hG1; clear hG0
    refine wpS1 1 hG1 ?_; intro hG2; clear hG1
    refine wpS1 2 hG2 ?_; intro hG3; clear hG2
    refine wpS2 3 hG3 ?_; intro hG4; clear hG3
    refine wpS1 4 hG4 ?_; intro hG5; clear hG4
    refine wpS1 5 hG5 ?_; intro hG6; clear hG5
    refine wpS1 6 hG6 ?_; intro hG7; clear hG6
    refine wpS1 7 hG7 ?_; intro hG8; clear hG7
    refine wpS2 8 hG8 ?_; intro hG9; clear hG8
    refine wpS1 9 hG9 ?_; intro hG10; clear hG9
    refine wpS1 11 hG10 ?_; intro hG11; clear hG10
    refine wpAnyG_ready (rs := [10, 12]) (by kernel_rfl) (by simp) (AllG.cons rfl hG11 (fun K hK => ?_) (AllG.cons rfl hG11 (fun K hK => ?_) AllG.nil))
    (have hl := HLK.out wy.drew (by repeat (first | exact Below.refl _ _ | refine below_dN ?_ _ | refine Below.drew ?_ | refine Below.alloc ?_ (by first | omega | (simp; done) | (simp; omega)) _ | refine Below.setCell ?_ (by first | omega | (simp; done) | (simp; omega)) _ | refine below_step (by assumption) (by first | omega | (simp; done) | (simp; omega)) ?_)); go_simp; clear hl)
    refine hK.out _ _ (Or.inr (HSY.out _ (by repeat (first | exact Below.refl _ _ | refine below_dN ?_ _ | refine Below.drew ?_ | refine Below.alloc ?_ (by first | omega | (simp; done) | (simp; omega)) _ | refine Below.setCell ?_ (by first | omega | (simp; done) | (simp; omega)) _ | refine below_step (by assumption) (by first | omega | (simp; done) | (simp; omega)) ?_)))) (fun hG12 => wpN ?_); clear hK hG11
    refine wpAnyG_ready (rs := [12]) (by kernel_rfl) (by simp) (AllG.cons rfl hG12 (fun K hK => ?_) AllG.nil)
    (go_simp)
    refine hK.out _ _ (Or.inr (HSY.out _ (by repeat (first | exact Below.refl _ _ | refine below_dN ?_ _ | refine Below.drew ?_ | refine Below.alloc ?_ (by first | omega | (simp; done) | (simp; omega)) _ | refine Below.setCell ?_ (by first | omega | (simp; done) | (simp; omega)) _ | refine below_step (by assumption) (by first | omega | (simp; done) | (simp; omega)) ?_)))) (fun hG13 => wpN ?_); clear hK hG12
    refine wpAnyG_ready (rs := [13]) (by kernel_rfl) (by simp) (AllG.cons rfl hG13 (fun K hK => ?_) AllG.nil)
    (refine step_append_src (by rfl) _ _ 22 (by rfl) base 3 ii (.int .i64 0) 1 8 undI hi1 iq0 iq1 iq2 rfl (by decide) (.slice VA m VC) m (ic (idsH F n S hq)) (by rfl) (by exact HROWy.out.alloc _) (some ⟨wy.heap.size, 0, none⟩) 1 1 [.int .i64 (S.length : Nat)] (by rfl) (src_of (heap_alloc_new wy _) rfl (by intro u hu; simp at hu; subst hu; rfl)) (by unfold maxLen; omega) (by omega) (by first | omega | (simp; done) | (simp; omega)) ?_; intro v13 w13 hown13 hgrow13 hat13; obtain ⟨A13, c13, rfl⟩ := own_shape hown13)
    refine hK.out _ _ (Or.inr (by have := (hgrow13.block R (by simp; omega) (fun e => HVR.out e.symm)); exact (World.cell?_of_block (a := ⟨R, 2, none⟩) this).trans (HSY.out _ (by repeat (first | exact Below.refl _ _ | refine below_dN ?_ _ | refine Below.drew ?_ | refine Below.alloc ?_ (by first | omega | (simp; done) | (simp; omega)) _ | refine Below.setCell ?_ (by first | omega | (simp; done) | (simp; omega)) _ | refine below_step (by assumption) (by first | omega | (simp; done) | (simp; omega)) ?_))))) (fun hG14 => wpN ?_); clear hK hG13
    refine wpAnyG_ready (rs := [14]) (by kernel_rfl) (by simp) (AllG.cons rfl hG14 (fun K hK => ?_) AllG.nil)
    (obtain ⟨es', ck', hst, htok, hia, hio⟩ := tab_store (show w13.heap[mb]? = some (.map es clock) from (hgrow13.block mb (by simp; omega) (fun e => HVM.out e.symm)).trans (((kb_alloc wy.drew _ (fun _ => False)).block mb (by show mb < wy.heap.size; omega) (fun h => h)).trans HMY.out)) HR1.out.tab HWF.out (.slice A13 (m + 1) c13); go_simp; clear hst)
    refine hK.out _ _ (Or.inl rfl) (fun hG15 => wpN ?_); clear hK hG14
    refine wpAnyG_done (by kernel_rfl) ?_ _; clear hG15
    rotate_left
    (go_simp)
    refine hK.out _ _ (Or.inr (HSY.out _ (by repeat (first | exact Below.refl _ _ | refine below_dN ?_ _ | refine Below.drew ?_ | refine Below.alloc ?_ (by first | omega | (simp; done) | (simp; omega)) _ | refine Below.setCell ?_ (by first | omega | (simp; done) | (simp; omega)) _ | refine below_step (by assumption) (by first | omega | (simp; done) | (simp; omega)) ?_)))) (fun hG12 => wpN ?_); clear hK hG11
    refine wpAnyG_ready (rs := [10]) (by kernel_rfl) (by simp) (AllG.cons rfl hG12 (fun K hK => ?_) AllG.nil)
    (have hl := HLK.out (wy.alloc (.cells #[.int .i64 (S.length : Nat)] 3)).drew (by repeat (first | exact Below.refl _ _ | refine below_dN ?_ _ | refine Below.drew ?_ | refine Below.alloc ?_ (by first | omega | (simp; done) | (simp; omega)) _ | refine Below.setCell ?_ (by first | omega | (simp; done) | (simp; omega)) _ | refine below_step (by assumption) (by first | omega | (simp; done) | (simp; omega)) ?_)); go_simp; clear hl)
    refine hK.out _ _ (Or.inr (HSY.out _ (by repeat (first | exact Below.refl _ _ | refine below_dN ?_ _ | refine Below.drew ?_ | refine Below.alloc ?_ (by first | omega | (simp; done) | (simp; omega)) _ | refine Below.setCell ?_ (by first | omega | (simp; done) | (simp; omega)) _ | refine below_step (by assumption) (by first | omega | (simp; done) | (simp; omega)) ?_)))) (fun hG13 => wpN ?_); clear hK hG12
    refine wpAnyG_ready (rs := [13]) (by kernel_rfl) (by simp) (AllG.cons rfl hG13 (fun K hK => ?_) AllG.nil)
    (refine step_append_src (by rfl) _ _ 22 (by rfl) base 3 ii (.int .i64 0) 1 8 undI hi1 iq0 iq1 iq2 rfl (by decide) (.slice VA m VC) m (ic (idsH F n S hq)) (by rfl) (by exact HROWy.out.alloc _) (some ⟨wy.heap.size, 0, none⟩) 1 1 [.int .i64 (S.length : Nat)] (by rfl) (src_of (heap_alloc_new wy _) rfl (by intro u hu; simp at hu; subst hu; rfl)) (by unfold maxLen; omega) (by omega) (by first | omega | (simp; done) | (simp; omega)) ?_; intro v13 w13 hown13 hgrow13 hat13; obtain ⟨A13, c13, rfl⟩ := own_shape hown13)
    refine hK.out _ _ (Or.inr (by have := (hgrow13.block R (by simp; omega) (fun e => HVR.out e.symm)); exact (World.cell?_of_block (a := ⟨R, 2, none⟩) this).trans (HSY.out _ (by repeat (first | exact Below.refl _ _ | refine below_dN ?_ _ | refine Below.drew ?_ | refine Below.alloc ?_ (by first | omega | (simp; done) | (simp; omega)) _ | refine Below.setCell ?_ (by first | omega | (simp; done) | (simp; omega)) _ | refine below_step (by assumption) (by first | omega | (simp; done) | (simp; omega)) ?_))))) (fun hG14 => wpN ?_); clear hK hG13
    refine wpAnyG_ready (rs := [14]) (by kernel_rfl) (by simp) (AllG.cons rfl hG14 (fun K hK => ?_) AllG.nil)
    (obtain ⟨es', ck', hst, htok, hia, hio⟩ := tab_store (show w13.heap[mb]? = some (.map es clock) from (hgrow13.block mb (by simp; omega) (fun e => HVM.out e.symm)).trans (((kb_alloc wy.drew _ (fun _ => False)).block mb (by show mb < wy.heap.size; omega) (fun h => h)).trans HMY.out)) HR1.out.tab HWF.out (.slice A13 (m + 1) c13); go_simp; clear hst)
    refine hK.out _ _ (Or.inl rfl) (fun hG15 => wpN ?_); clear hK hG14
    refine wpAnyG_done (by kernel_rfl) ?_ _; clear hG15
    rotate_left
    all_goals
      go_wp2
      refine bodyPost_ret (v := .tuple #[.int .i64 S.length, .bool true, .nilIface]) (by simp [results, Tryz.results10, go_sem, ↓IntWalk.iteOmega, *]) rfl (.inr ⟨HNO.out, rfl, ?_⟩)
      have hmm := HM.out
      have hwy := HWY.out
      subst hmm
      subst hwy
      obtain ⟨hk, wb', hreg, hrow, hwb, hwn⟩ := radd_reg (ck := ck') HR1.out HHQ.out HOK.out HNO.out hsm HX.out HV.out HG9.out HO9.out HA9.out ⟨hgrow13.os, hgrow13.tape, hgrow13.output, hgrow13.size, hgrow13.block⟩ hown13 hat13 htok hia hio
      exact ⟨(Kb.of_below HB1.out).trans hk, _, _, wb', hreg, fun b hb => hrow b (Nat.lt_of_lt_of_le hb HB1.out.size), hwb, by rw [hwn]; exact HG.out⟩
end Go.Proofs.YtpobnjbpglaohaaGreat
