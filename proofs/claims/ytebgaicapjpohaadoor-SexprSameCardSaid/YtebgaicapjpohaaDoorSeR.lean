/- sexpr: add. -/
import Derived.Test.YtebgaicapjpohaaDoorRegA
import Derived.Test.YtebgaicapjpohaaDoorSeT
namespace Go.Proofs.YtebgaicapjpohaaDoor
set_option linter.unusedSimpArgs false
set_option linter.unusedVariables false
open Go Go.RowKit
set_option linter.unusedVariables false

/-- What is behind add. -/
def AddRet (B R : Nat) (S : ByteArray) (at_ l c n : Int) (O : Value) (init : List Op1) (o : Op1) (x : Sx) (vs : List Value) (w : World) (e : Ending) (w' : World) : Prop :=
  e = .returned (.tuple #[]) ∧ (∃ K', RdX w' R S at_ l c n O ∧ StkAt B R w' O (init ++ [⟨o.x.push x, K', o.ks ++ vs⟩])) ∧ Kb (bdS R O (init ++ [o])) w w'

theorem qundSx : Tryd.prog.underlying 26 = some (.slice 34) := by kernel_rfl
theorem StkAt.addR {B R gO n cO gK i : Nat} {w w9 : World} {init : List Op1} {o : Op1} {v0 v1 v2 v3 v4 v5 u : Value} {j : Nat}
    (h : StkAt B R w (.slice (some ⟨gO, 0, none⟩) n cO) (init ++ [o])) (hR : R < w.heap.size)
    (hg : w.grownBy w9 o.K.ownBlock) (hat : some gK = o.K.ownBlock ∨ gK = w.heap.size) :
    ((set6 w9 gK i v0 v1 v2 v3 v4 v5).setCell ⟨gO, j, none⟩ u).heap[R]? = w.heap[R]? := by
  have hne : R ≠ gO := fun e => h.rO (by rw [e]; rfl)
  have hnK : R ≠ gK := by
    rcases hat with e | e
    · intro e2; exact h.rK o (by simp) (by rw [← e, e2])
    · omega
  have e1 := hg.block R hR (fun e => h.rK o (by simp) e.symm)
  rw [Below.heap_setCell _ _ _ _ hne]
  unfold set6
  rw [Below.heap_setCell _ _ _ _ hnK, Below.heap_setCell _ _ _ _ hnK, Below.heap_setCell _ _ _ _ hnK, Below.heap_setCell _ _ _ _ hnK, Below.heap_setCell _ _ _ _ hnK, Below.heap_setCell _ _ _ _ hnK, e1]
theorem qsizeSx : (Tryd.prog.info? 34).map (·.size) = some 6 := by kernel_rfl
theorem qsizeSl : (Tryd.prog.info? 26).map (·.size) = some 1 := by kernel_rfl
def zero6 : List Value := [.int .i64 0, .int .i64 0, .int .i64 0, .int .i64 0, .string ByteArray.empty, .slice none 0 0]
theorem six_one {a b c d e f : Value} (h0 : a.oneCell' = true) (h1 : b.oneCell' = true) (h2 : c.oneCell' = true) (h3 : d.oneCell' = true) (h4 : e.oneCell' = true) (h5 : f.oneCell' = true) : ∀ v ∈ [a, b, c, d, e, f], v.oneCell' = true := by
  intro v hv; simp at hv; rcases hv with rfl | rfl | rfl | rfl | rfl | rfl <;> assumption

set_option maxHeartbeats 4000000 in
theorem add_any (B R gO m cO : Nat) (S : ByteArray) (at_ l c n : Int) (init : List Op1) (o : Op1) (k v l' c' : Int) (t : List UInt8) (kids : List Sx) (A : Option Addr) (cap : Nat) (w : World)
    (hb : RdX w R S at_ l c n (.slice (some ⟨gO, 0, none⟩) (m + 1) cO)) (hm : init.length = m) (hms : m ≤ 1000) (hks : o.x.kids.length ≤ 100000)
    (h : StkAt B R w (.slice (some ⟨gO, 0, none⟩) (m + 1) cO) (init ++ [o])) (hx : SxIs w (bdS R (.slice (some ⟨gO, 0, none⟩) (m + 1) cO) (init ++ [o])) [.int .i64 k, .int .i64 v, .int .i64 l', .int .i64 c', .string (bs t), .slice A kids.length cap] (.mk k v l' c' t kids)) :
    Calls Tryd.prog 21 #[.pointer (some ⟨R, 0, none⟩), .agg #[.int .i64 k, .int .i64 v, .int .i64 l', .int .i64 c', .string (bs t), .slice A kids.length cap]] w (AddRet B R S at_ l c n (.slice (some ⟨gO, 0, none⟩) (m + 1) cO) init o (.mk k v l' c' t kids) [.int .i64 k, .int .i64 v, .int .i64 l', .int .i64 c', .string (bs t), .slice A kids.length cap] w) := by
  have c5 := hb.c5
  have rlt := hb.lt
  have olt := (h.own.lt gO rfl).2
  obtain ⟨AK, cK, hK⟩ := own_shape (h.kid o (by simp))
  have hown := h.own
  rw [show (init ++ [o]).length = m + 1 by simp [hm]] at hown
  have hcK := own_cell hown (i := m * 6 + 5) (u := o.K) (by
    rw [opCells_app, List.getElem?_append_right (by rw [opCells_len]; omega), opCells_len, hm, Nat.add_sub_cancel_left]
    rfl)
  rw [hK] at hcK
  obtain ⟨gO', e1, e2, e3, hfO⟩ := own_frozen hown (by simp)
  cases e1
  have hfx := hfO (m * 6 + 5)
  have hndup : gO ≠ R := fun e => h.rO (by rw [← e]; rfl)
  have HB := Lib.hid hb
  have H := Lib.hid h
  have HX := Lib.hid hx
  have HK := Lib.hid hK
  have HM := Lib.hid hm
  clear hb h hx hK hm hfO hown
  obtain ⟨infS, hiS, ez0, ez1, ez2⟩ := info_parts qinfoSx
  obtain ⟨nk, hnk⟩ : ∃ nk, o.x.kids.length = nk := ⟨_, rfl⟩
  rw [hnk] at hcK hks
  have HNK := Lib.hid hnk
  clear hnk
  go_enter Tryd.func21, Tryd.ntmps21
  go_wp2_with fail
  go_quiet (fail)
  go_wp2_with fail
  obtain ⟨wb, hwb⟩ : ∃ wb, (w.alloc (Obj.cells #[.int .i64 k, .int .i64 v, .int .i64 l', .int .i64 c', .string (bs t), .slice A kids.length cap] 34)).drewN nq = wb := ⟨_, rfl⟩
  have hbb : Below w.heap.size w wb := by rw [← hwb]; repeat (first | exact Below.refl _ _ | refine below_dN ?_ _ | refine Below.drew ?_ | refine Below.alloc ?_ (by first | omega | (simp; done) | (simp; omega)) _ | refine Below.setCell ?_ (by first | omega | (simp; done) | (simp; omega)) _ | refine below_step (by assumption) (by first | omega | (simp; done) | (simp; omega)) ?_)
  have hxe : BxI wb w.heap.size 34 #[.int .i64 k, .int .i64 v, .int .i64 l', .int .i64 c', .string (bs t), .slice A kids.length cap] := by
    rw [← hwb]; exact (BxI.new w _ _).up (below_dN (Below.refl _ _) nq)
  have hbz : wb.heap.size = w.heap.size + 1 := by rw [← hwb]; simp
  rw [hwb]
  clear hwb
  have hS : ∀ w' : World, (∀ g, g = gO ∨ g = w.heap.size → w'.heap[g]? = wb.heap[g]?) → w'.cell? ⟨gO, m * 6 + 5, none⟩ = some (.slice AK nk cK) ∧ w'.cell? ⟨w.heap.size, 0, none⟩ = some (.int .i64 k) ∧ w'.cell? ⟨w.heap.size, 1, none⟩ = some (.int .i64 v) ∧ w'.cell? ⟨w.heap.size, 2, none⟩ = some (.int .i64 l') ∧ w'.cell? ⟨w.heap.size, 3, none⟩ = some (.int .i64 c') ∧ w'.cell? ⟨w.heap.size, 4, none⟩ = some (.string (bs t)) ∧ w'.cell? ⟨w.heap.size, 5, none⟩ = some (.slice A kids.length cap) := fun w' h =>
    have e : ∀ j, w'.cell? ⟨w.heap.size, j, none⟩ = wb.cell? ⟨w.heap.size, j, none⟩ := fun j => World.cell?_of_block (w := wb) (a := ⟨w.heap.size, j, none⟩) (h _ (.inr rfl))
    ⟨(World.cell?_of_block (w := wb) (a := ⟨gO, _, none⟩) (h _ (.inl rfl))).trans ((hbb.cell (p := ⟨gO, _, none⟩) olt).trans hcK), (e 0).trans (hxe.cell 0 _ rfl), (e 1).trans (hxe.cell 1 _ rfl), (e 2).trans (hxe.cell 2 _ rfl), (e 3).trans (hxe.cell 3 _ rfl), (e 4).trans (hxe.cell 4 _ rfl), (e 5).trans (hxe.cell 5 _ rfl)⟩
  have HS0 := Lib.hid hS
  have HU := Lib.hid (H.out.up hbb)
  clear hS hcK
  have HSA := Lib.hid (show ∀ g, g = gO ∨ g = w.heap.size → (wb.alloc (Obj.cells #[.int .i64 0, .int .i64 0, .int .i64 0, .int .i64 0, .string ByteArray.empty, .slice none 0 0] 34)).heap[g]? = wb.heap[g]? from fun g hg => ((Below.refl wb.heap.size wb).alloc (Nat.le_refl _) _).block g (by rcases hg with e | e <;> omega))
  have hkd := H.out.kid o (by simp)
  rw [HK.out, HNK.out] at hkd
  have HKD := Lib.hid (own_below hkd hbb)
  have hBs : B ≤ wb.heap.size := by omega
  have HKL := Lib.hid (show o.ks.length = nk * 6 by rw [← HNK.out]; exact KidsIs.len _ _ (H.out.kis o (by simp)))
  have hfb : wb.frozen? ⟨gO, m * 6 + 5, none⟩ = false := (hbb.frozen (p := ⟨gO, _, none⟩) olt).trans hfx
  clear hkd hxe
  have HT12 := Lib.hid (show ∀ w' : World, w'.heap[gO]? = wb.heap[gO]? → w'.there gO (m * 6 + 5) 1 from fun w' e => by
    have h1 := H.out.own
    rw [show (init ++ [o]).length = m + 1 by simp [HM.out]] at h1
    have h2 := there_own h1 (i := m * 6 + 5) (m := 1) (by omega)
    intro j hj
    obtain ⟨h3, h4⟩ := h2 j hj
    have e2 : w'.heap[gO]? = w.heap[gO]? := e.trans (hbb.block gO olt)
    exact ⟨by rw [World.cell?_of_block (w := w) (a := ⟨gO, _, none⟩) e2]; exact h3, by rw [World.frozen?_of_block (w := w) (a := ⟨gO, _, none⟩) e2]; exact h4⟩)
  have HAO := Lib.hid (show some gO ≠ (Value.slice AK nk cK).ownBlock by
    have := H.out.aO o (by simp)
    rw [HK.out, HNK.out] at this
    rcases this with h | h
    · cases h
    · exact h)
  refine wp_region_G 7 (fun w' => w'.cell? ⟨gO, m * 6 + 5, none⟩ = some (.slice AK nk cK) ∧ w'.cell? ⟨w.heap.size, 0, none⟩ = some (.int .i64 k) ∧ w'.cell? ⟨w.heap.size, 1, none⟩ = some (.int .i64 v) ∧ w'.cell? ⟨w.heap.size, 2, none⟩ = some (.int .i64 l') ∧ w'.cell? ⟨w.heap.size, 3, none⟩ = some (.int .i64 c') ∧ w'.cell? ⟨w.heap.size, 4, none⟩ = some (.string (bs t)) ∧ w'.cell? ⟨w.heap.size, 5, none⟩ = some (.slice A kids.length cap)) (by kernel_rfl) (HS0.out _ (fun g _ => rfl)) ?_
  intro hG0
  refine wpS1 0 hG0 ?_; intro hG1; clear hG0
  refine wpS1 1 hG1 ?_; intro hG2; clear hG1
  refine wpS1 2 hG2 ?_; intro hG3; clear hG2
  refine wpS2 3 hG3 ?_; intro hG4; clear hG3
  refine wpS2 4 hG4 ?_; intro hG5; clear hG4
  refine wpS1 5 hG5 ?_; intro hG6; clear hG5
  refine wpAnyG_ready (rs := [6]) (by kernel_rfl) (by simp) (AllG.cons rfl hG6 (fun K hK => ?_) AllG.nil)
  (go_simp)
  refine hK.out _ _ (Or.inr (HS0.out _ (fun g hg => HSA.out g hg))) (fun hG7 => wpN ?_); clear hK hG6
  refine wpAnyG_ready (rs := [7]) (by kernel_rfl) (by simp) (AllG.cons rfl hG7 (fun K hK => ?_) AllG.nil)
  (refine step_append_src (by rfl) _ _ 26 (by rfl) B 34 infS (.agg #[.int .i64 0, .int .i64 0, .int .i64 0, .int .i64 0, .string ByteArray.empty, .slice none 0 0]) 6 72 qundSx hiS ez0 ez1 ez2 rfl (by decide) (.slice AK nk cK) nk o.ks (by rfl) (by exact (HKD.out.alloc _)) (some ⟨w.heap.size + 1, 0, none⟩) 1 1 zero6 (by rfl) (src_of (by have h9 := heap_alloc_new wb (Obj.cells #[.int .i64 0, .int .i64 0, .int .i64 0, .int .i64 0, .string ByteArray.empty, .slice none 0 0] 34); rw [hbz] at h9; exact h9) rfl (six_one rfl rfl rfl rfl rfl rfl)) (by unfold maxLen; omega) (by omega) (by first | omega | (simp; done) | (simp; omega)) ?_; intro v9 w9 hown9 hgrow9 hat9; obtain ⟨A9, c9, rfl⟩ := own_shape hown9; obtain ⟨gK, rfl, hgK1, hgK2, hgK3⟩ := own_frozen hown9 (Nat.succ_pos _); have HO9 := Lib.hid hown9; have HG9 := Lib.hid hgrow9; have HA9 := Lib.hid hat9; have HT9 := Lib.hid (HT12.out w9 ((hgrow9.block gO (by simp [World.size_alloc]; omega) HAO.out).trans (((Below.refl wb.heap.size wb).alloc (Nat.le_refl _) _).block gO (by omega)))); clear hown9 hgrow9 hat9 hgK3)
  refine hK.out _ _ (Or.inl rfl) (fun hG8 => wpN ?_); clear hK hG7
  refine wpS1 8 hG8 ?_; intro hG9; clear hG8
  refine wpS1 10 hG9 ?_; intro hG10; clear hG9
  refine wpS1 11 hG10 ?_; intro hG11; clear hG10
  refine wpAnyG_ready (rs := [9, 12]) (by kernel_rfl) (by simp) (AllG.cons rfl hG11 (fun K hK => ?_) (AllG.cons rfl hG11 (fun K hK => ?_) AllG.nil))
  (refine step_store6 (by rfl) 34 _ _ (by rfl) gK (nk * 6) (.int .i64 k) (.int .i64 v) (.int .i64 l') (.int .i64 c') (.string (bs t)) (.slice A kids.length cap) (by rfl) (by rfl) (there_own HO9.out (by omega)) qsizeSx (six_one rfl rfl rfl rfl rfl rfl) ?_; intro wx HWX)
  refine hK.out _ _ (Or.inl rfl) (fun hG12 => wpN ?_); clear hK hG11
  refine wpAnyG_ready (rs := [12]) (by kernel_rfl) (by simp) (AllG.cons rfl hG12 (fun K hK => ?_) AllG.nil)
  (refine step_store1 (by rfl) 26 _ _ (by rfl) gO (m * 6 + 5) (.slice (some ⟨gK, 0, none⟩) (nk + 1) c9) rfl (by rfl) (by rfl) (by rw [HWX.out]; exact there_set6 HT9.out) qsizeSl rfl ?_; intro wy HWY)
  refine hK.out _ _ (Or.inl rfl) (fun hG13 => wpN ?_); clear hK hG12
  refine wpAnyG_done (by kernel_rfl) ?_ _; clear hG13
  rotate_left
  (refine step_store1 (by rfl) 26 _ _ (by rfl) gO (m * 6 + 5) (.slice (some ⟨gK, 0, none⟩) (nk + 1) c9) rfl (by rfl) (by rfl) (HT9.out) qsizeSl rfl ?_; intro wy HWY)
  refine hK.out _ _ (Or.inl rfl) (fun hG12 => wpN ?_); clear hK hG11
  refine wpAnyG_ready (rs := [9]) (by kernel_rfl) (by simp) (AllG.cons rfl hG12 (fun K hK => ?_) AllG.nil)
  (refine step_store6 (by rfl) 34 _ _ (by rfl) gK (nk * 6) (.int .i64 k) (.int .i64 v) (.int .i64 l') (.int .i64 c') (.string (bs t)) (.slice A kids.length cap) (by rfl) (by rfl) (by rw [HWY.out]; exact there_set (there_own HO9.out (by omega))) qsizeSx (six_one rfl rfl rfl rfl rfl rfl) ?_; intro wx HWX)
  refine hK.out _ _ (Or.inl rfl) (fun hG13 => wpN ?_); clear hK hG12
  refine wpAnyG_done (by kernel_rfl) ?_ _; clear hG13
  rotate_left
  all_goals have FIN := Lib.hid (show ∀ wz : World, wz = (set6 w9 gK (nk * 6) (.int .i64 k) (.int .i64 v) (.int .i64 l') (.int .i64 c') (.string (bs t)) (.slice A kids.length cap)).setCell ⟨gO, m * 6 + 5, none⟩ (.slice (some ⟨gK, 0, none⟩) (nk + 1) c9) → AddRet B R S at_ l c n (.slice (some ⟨gO, 0, none⟩) (m + 1) cO) init o (.mk k v l' c' t kids) [.int .i64 k, .int .i64 v, .int .i64 l', .int .i64 c', .string (bs t), .slice A kids.length cap] w (.returned (.tuple #[])) wz from fun wz e => by
    subst e
    have hbc : Below wb.heap.size wb (wb.alloc (Obj.cells #[Value.int IntKind.i64 0, Value.int IntKind.i64 0, Value.int IntKind.i64 0, Value.int IntKind.i64 0, Value.string { data := #[] }, Value.slice none 0 0] 34)).drew := by repeat (first | exact Below.refl _ _ | refine below_dN ?_ _ | refine Below.drew ?_ | refine Below.alloc ?_ (by first | omega | (simp; done) | (simp; omega)) _ | refine Below.setCell ?_ (by first | omega | (simp; done) | (simp; omega)) _ | refine below_step (by assumption) (by first | omega | (simp; done) | (simp; omega)) ?_)
    have hbw : Below w.heap.size w (wb.alloc (Obj.cells #[Value.int IntKind.i64 0, Value.int IntKind.i64 0, Value.int IntKind.i64 0, Value.int IntKind.i64 0, Value.string { data := #[] }, Value.slice none 0 0] 34)).drew := hbb.trans (hbc.mono (by omega))
    have hg9 := HG9.out
    have hat : some gK = o.K.ownBlock ∨ gK = (wb.alloc (Obj.cells #[Value.int IntKind.i64 0, Value.int IntKind.i64 0, Value.int IntKind.i64 0, Value.int IntKind.i64 0, Value.string { data := #[] }, Value.slice none 0 0] 34)).drew.heap.size := by
      rw [HK.out, HNK.out]
      rcases HA9.out with h | h
      · exact .inl h
      · exact .inr (Option.some.inj h)
    have hKe : (Value.slice AK nk cK).ownBlock = o.K.ownBlock := by rw [HK.out, HNK.out]
    rw [hKe] at hg9
    have hR' : R < (wb.alloc (Obj.cells #[Value.int IntKind.i64 0, Value.int IntKind.i64 0, Value.int IntKind.i64 0, Value.int IntKind.i64 0, Value.string { data := #[] }, Value.slice none 0 0] 34)).drew.heap.size := Nat.lt_of_lt_of_le rlt hbw.size
    have hstk := HU.out.up hbc
    have hsx := SxIs.move (Moves.up hbw) _ _ HX.out
    have hadd := StkAt.add hstk hR' hsx HO9.out rfl HKL.out (by rw [HNK.out]) hg9 hat
    have haR := StkAt.addR (i := nk * 6) (v0 := .int .i64 k) (v1 := .int .i64 v) (v2 := .int .i64 l') (v3 := .int .i64 c') (v4 := .string (bs t)) (v5 := .slice A kids.length cap) (u := .slice (some ⟨gK, 0, none⟩) (nk + 1) c9) (j := m * 6 + 5) hstk hR' hg9 hat
    rw [HM.out] at hadd
    refine ⟨rfl, ⟨_, ?_, hadd.1⟩, (Kb.of_below hbw).trans hadd.2⟩
    exact haR.trans (HB.out.up hbw))
  · clear hbb hbz
    go_wp2
    refine bodyPost_end (results_none rfl _ _ _) rfl (FIN.out _ ?_)
    rw [HWY.out, HWX.out]
  · have HBB := Lib.hid hbb
    clear hbb hbz
    go_wp2
    refine bodyPost_end (results_none rfl _ _ _) rfl (FIN.out _ ?_)
    have hbb := HBB.out
    rw [HWX.out, HWY.out]
    exact set6_comm _ (q := ⟨gO, m * 6 + 5, none⟩) (fun e => by
      rcases HA9.out with h | h
      · exact HAO.out (by rw [← h, e]; rfl)
      · have h2 := Option.some.inj h
        simp only [World.size_drew, World.size_alloc] at h2
        have h3 := hbb.size
        have e' : gK = gO := e
        omega) _ _ _ _ _ _ _
end Go.Proofs.YtebgaicapjpohaaDoor
