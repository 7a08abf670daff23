/- causal.Restrict. -/
import Derived.Test.YtenmeiplglbafaaCauC
import Derived.Test.YtenmeiplglbafaaResA
import Derived.Test.YtenmeiplglbafaaKb
import Derived.Test.YtenmeiplglbafaaTaskN
import Derived.Deep.DeepCutAuto
import Derived.LoopTactic
namespace Go.Proofs.Ytenmeiplglbafaa
set_option linter.unusedSimpArgs false
set_option linter.unusedVariables false
open Go Go.RowKit
set_option linter.unusedVariables false

theorem infoEf : (Try.prog.info? 84).map (fun i => (i.zero, i.size, i.bytes)) = some (some (.agg #[.slice none 0 0, .int .i64 0, .int .i64 0]), 3, 40) := by kernel_rfl
theorem undEf : Try.prog.underlying 72 = some (.slice 84) := by kernel_rfl
theorem infoOp : (Try.prog.info? 74).map (fun i => (i.zero, i.size, i.bytes)) = some (some (.agg #[.string ByteArray.empty, .int .i64 0, .slice none 0 0, .slice none 0 0]), 4, 72) := by kernel_rfl
theorem undOp : Try.prog.underlying 24 = some (.slice 74) := by kernel_rfl

def ResRet (t : Tsk) (ec : Bool) (e : Ending) (w' : World) : Prop :=
  ∃ q A c, (e = if ec then .returned (.tuple #[TaskV (resT t) q, .slice A (resTo t).length c, .nilIface]) else .returned (.tuple #[TaskV (resT t) q, .slice A (resTo t).length c])) ∧ TaskAt w' w'.heap.size (resT t) q ∧ IntsAt w' w'.heap.size A (resTo t) ∧ (A = none → c = 0) ∧ (q.ai = none → q.ci = 0)

set_option maxRecDepth 100000 in
set_option maxHeartbeats 16000000 in
theorem restrict_any (t : Tsk) (p : Lies) (w : World) (ht : TaskAt w w.heap.size t p) (e0 : chkC t = 0) :
    Calls Try.prog 27 #[TaskV t p] w fun e w' => ResRet t true e w' ∧ Below w.heap.size w w' := by
  have hr := right_of e0
  have k1 := fun w1 (hb : Below w.heap.size w w1) => relevant_any t p w1 (ht.up hb) e0
  obtain ⟨av, ai, ag, ao, cv, ci, cg, co⟩ := p
  unfold TaskV at k1 ⊢
  dsimp only at *
  unfold RelRet at k1
  have n64 := hr.nv
  have Hil := Lib.hid (stB_len hr.init)
  have HR := Lib.hid hr
  have K1 := Lib.hid k1
  clear hr e0 k1
  obtain ⟨inf, hi, iz0, iz1, iz2⟩ := info_parts infoI
  obtain ⟨infE, hiE, ez0, ez1, ez2⟩ := info_parts infoEf
  obtain ⟨infO, hiO, oz0, oz1, oz2⟩ := info_parts infoOp
  go_enter Try.func27, Try.ntmps27
  go_wp2_with fail
  refine (K1.out _ (by repeat (first | exact Below.refl _ _ | refine below_dN ?_ _ | refine Below.drew ?_ | refine Below.alloc ?_ (by first | omega | (simp; done) | (simp; omega)) _ | refine Below.setCell ?_ (by first | omega | (simp; done) | (simp; omega)) _ | refine below_step (by assumption) (by first | omega | (simp; done) | (simp; omega)) ?_))).mono ?_
  rintro e w2 ⟨⟨g, rfl, hrow, hg⟩, hb2⟩
  have hbx2 : Boxed w2 w.heap.size t ⟨av, ai, ag, ao, cv, ci, cg, co⟩ := Boxed.up (by constructor <;> first | (simp; done) | (simp; omega)) hb2
  have hres2 : Box4 w2 (w.heap.size + 1) (.slice none 0 0) (.slice none 0 0) (.slice none 0 0) (.slice none 0 0) := by
    have := Box4.up (Box4.new (w.alloc (.cells #[.slice av t.vars.length cv, .slice ai t.init.length ci, .slice ag t.goal.length cg, .slice ao t.ops.length co] 26)) 26 (.slice none 0 0) (.slice none 0 0) (.slice none 0 0) (.slice none 0 0)) hb2
    simpa using this
  have hbw2 : Below w.heap.size w w2 := by repeat (first | exact Below.refl _ _ | refine below_dN ?_ _ | refine Below.drew ?_ | refine Below.alloc ?_ (by first | omega | (simp; done) | (simp; omega)) _ | refine Below.setCell ?_ (by first | omega | (simp; done) | (simp; omega)) _ | refine below_step (by assumption) (by first | omega | (simp; done) | (simp; omega)) ?_)
  have hz2 : w.heap.size + 2 ≤ w2.heap.size := by have := hb2.size; simpa using this
  have glt := hrow.lt
  clear hb2
  go_wp2
  go_loopw [8, 27] (fun L i wr => ∃ (k : Nat) (V I : Value), k ≤ t.vars.length ∧ i = .int .i64 k ∧ Rows3 wr (w2.heap.size + 1) wr L (toN (relB t) k) V (keN (relB t) t.vars k) I (keN (relB t) t.init k) ∧ Box4 wr w2.heap.size V I (.slice none 0 0) (.slice none 0 0) ∧ Below w2.heap.size w2 wr) (fun _ i _ => t.vars.length - (intOf i).toNat)
  case atStart => exact ⟨0, (.slice none 0 0), (.slice none 0 0), by omega, rfl, Rows3.nil _ _ (by simp), Box4.new _ _ _ _ _ _, by repeat (first | exact Below.refl _ _ | refine below_dN ?_ _ | refine Below.drew ?_ | refine Below.alloc ?_ (by first | omega | (simp; done) | (simp; omega)) _ | refine Below.setCell ?_ (by first | omega | (simp; done) | (simp; omega)) _ | refine below_step (by assumption) (by first | omega | (simp; done) | (simp; omega)) ?_)⟩
  case round =>
    obtain ⟨k, V, I, hk, rfl, hT, hbox, hbel⟩ := hrel
    have hbz := hT.sz
    obtain ⟨AV, cV, rfl⟩ := own_shape hT.oV
    obtain ⟨b0, b1, b2, b3, b4, b5⟩ := id hbox
    have hbx := hbx2.up hbel
    by_cases hlt : k < t.vars.length
    · have r1 := (row_up hrow hbel).cell hlt
      have x0 : (0 : Int) ≤ (k : Int) := by omega
      have x1 : (k : Int) < (t.vars.length : Int) := by omega
      have x2 : (k : Int) < (t.init.length : Int) := by have := Hil.out; omega
      have hll : (toN (relB t) k).length ≤ 64 := by rw [toN_len]; omega
      have hlv : (keN (relB t) t.vars k).length ≤ 64 := by rw [keN_len]; have := cntR_le (relB t) k; omega
      have hli : (keN (relB t) t.init k).length ≤ 64 := by rw [keN_len]; have := cntR_le (relB t) k; omega
      cases e1 : relB t k
      · rw [e1] at r1
        have E1 := Lib.hid e1
        clear e1
        go_wp2_with (at_builtin; refine wpList_push rfl _ _ 22 rfl (w2.heap.size + 1) 3 inf (.int .i64 0) 1 8 undI hi iz0 iz1 iz2 rfl (by decide) (by decide) u8 (toN (relB t) k).length (ic (toN (relB t) k)) rfl (hT.oL.alloc _) wr.heap.size 3 [.int .i64 (-1)] rfl rfl (heap_alloc_new _ _) (one_one rfl) (by omega) (by first | omega | (simp; omega)) (B := w2.heap.size) (W := w2) (hbel.alloc (by omega) _) (by omega) ?_; intro v' w8 hown' hgrow hat hbw8; have hT' := (hT.alloc (Obj.cells #[.int .i64 (-1)] 3)).pushL hgrow hown' hat; have HT := Lib.hid hT'; clear hown' hgrow hat hT')
        go_roundw
        case rel => exact ⟨k + 1, _, I, by omega, by go_num, by rw [toN_no E1.out, keN_no E1.out, keN_no E1.out]; exact HT.out.begin, hbox.low HT.out.bel (by omega), hbw8⟩
        case measure => simp [intOf]; omega
      · rw [e1] at r1
        have E1 := Lib.hid e1
        clear e1
        go_wp2_with (at_builtin; refine wpList_push rfl _ _ 22 rfl (w2.heap.size + 1) 3 inf (.int .i64 0) 1 8 undI hi iz0 iz1 iz2 rfl (by decide) (by decide) u8 (toN (relB t) k).length (ic (toN (relB t) k)) rfl (hT.oL.alloc _) wr.heap.size 3 [.int .i64 ((keN (relB t) t.vars k).length : Int)] rfl rfl (heap_alloc_new _ _) (one_one rfl) (by omega) (by first | omega | (simp; omega)) (B := w2.heap.size) (W := w2) (hbel.alloc (by omega) _) (by omega) ?_; intro v' w8 hown' hgrow hat hbw8; have hT' := (hT.alloc (Obj.cells #[.int .i64 ((keN (relB t) t.vars k).length : Int)] 3)).pushL hgrow hown' hat; have HT := Lib.hid hT'; clear hown' hgrow hat hT')
        have hbox8 := hbox.low HT.out.bel (Nat.lt_succ_self _)
        have hbx8 := hbx2.up hbw8
        obtain ⟨a1, oa1, ea1, ha1, hc1⟩ := ht.vars.at_ hlt
        obtain ⟨a2, oa2, ea2, ha2, hc2⟩ := ht.init.at_ (k := k) (by have := Hil.out; omega)
        dsimp only at ea1 ea2
        subst ea1 ea2
        have hbw8w := hbw2.trans (hbw8.mono hbw2.size)
        have d1 := (hbw8w.cell (p := ⟨a1, oa1 + k, none⟩) ha1).trans (hc1 k hlt)
        have d2 := (hbw8w.cell (p := ⟨a2, oa2 + k, none⟩) ha2).trans (hc2 k (by have := Hil.out; omega))
        have hT := HT.out.begin
        have hsz8 := hT.sz
        have hVlt : ∀ g, (Value.slice AV (keN (relB t) t.vars k).length cV).ownBlock = some g → g < w8.heap.size := fun g h => (hT.oV.lt g h).2
        have hIlt : ∀ g, I.ownBlock = some g → g < w8.heap.size := fun g h => (hT.oI.lt g h).2
        clear b0 b1 b2 b3 b4 b5 hbox hbx hc1 hc2 HT r1
        obtain ⟨b0, b1, b2, b3, b4, b5⟩ := id hbox8
        obtain ⟨z0, y0, y1, y2, y3⟩ := id hbx8
        dsimp only at y0 y1 y2 y3
        replace hT := hT.drew
        go_wp2_with fail
        refine wp_region_G 17 (fun w' => ∀ b o, w'.cell? ⟨b, o, none⟩ = if b < (w2.heap.size + 1) then w8.cell? ⟨b, o, none⟩ else hidC w' b o) (by kernel_rfl) (cif (B := (w2.heap.size + 1)) (W := w8) (Below.refl _ _).drew) ?_
        intro hG0
        refine wpAnyG_any (i := 0) (v := ?_) rfl hG0 (by kernel_rfl) (by kernel_rfl) (by kernel_rfl) rfl (fun _ _ _ h => h) (Or.inl ⟨by rfl, ?_⟩) ?_; rotate_left; (intro wS hSw; (try dsimp only at hSw); first | (go_simp; done) | (go_simp; with_reducible rfl) | (simp [go_sem, ↓IntWalk.iteOmega, *]; done) | (simp [go_sem, ↓IntWalk.iteOmega, *]; with_reducible rfl)); (intro hG1); clear hG0; (try simp only [Act.put, List.setIfInBounds_toArray, List.set_cons_zero, List.set_cons_succ])
        refine wpAnyG_take (i := 1) (v := ?_) rfl hG1 (by kernel_rfl) (by kernel_rfl) (by kernel_rfl) rfl (by kernel_rfl) (fun _ _ _ h => h) (Or.inl ⟨by rfl, ?_⟩) ?_; rotate_left; (intro wS hSw; (try dsimp only at hSw); first | (go_simp; done) | (go_simp; with_reducible rfl) | (simp [go_sem, ↓IntWalk.iteOmega, *]; done) | (simp [go_sem, ↓IntWalk.iteOmega, *]; with_reducible rfl)); (intro hG2); clear hG1; (try simp only [Act.put, List.setIfInBounds_toArray, List.set_cons_zero, List.set_cons_succ])
        refine wpAnyG_any (i := 2) (v := ?_) rfl hG2 (by kernel_rfl) (by kernel_rfl) (by kernel_rfl) rfl (fun _ _ _ h => h) (Or.inl ⟨by rfl, ?_⟩) ?_; rotate_left; (intro wS hSw; (try dsimp only at hSw); first | (go_simp; done) | (go_simp; with_reducible rfl) | (simp [go_sem, ↓IntWalk.iteOmega, *]; done) | (simp [go_sem, ↓IntWalk.iteOmega, *]; with_reducible rfl)); (intro hG3); clear hG2; (try simp only [Act.put, List.setIfInBounds_toArray, List.set_cons_zero, List.set_cons_succ])
        refine wpAnyG_take (i := 3) (v := ?_) rfl hG3 (by kernel_rfl) (by kernel_rfl) (by kernel_rfl) rfl (by kernel_rfl) (fun _ _ _ h => h) (Or.inl ⟨by rfl, ?_⟩) ?_; rotate_left; (intro wS hSw; (try dsimp only at hSw); first | (go_simp; done) | (go_simp; with_reducible rfl) | (simp [go_sem, ↓IntWalk.iteOmega, *]; done) | (simp [go_sem, ↓IntWalk.iteOmega, *]; with_reducible rfl)); (intro hG4); clear hG3; (try simp only [Act.put, List.setIfInBounds_toArray, List.set_cons_zero, List.set_cons_succ])
        refine wpAnyG_any (i := 4) (v := ?_) rfl hG4 (by kernel_rfl) (by kernel_rfl) (by kernel_rfl) rfl (fun _ _ _ h => h) (Or.inl ⟨by rfl, ?_⟩) ?_; rotate_left; (intro wS hSw; (try dsimp only at hSw); first | (go_simp; done) | (go_simp; with_reducible rfl) | (simp [go_sem, ↓IntWalk.iteOmega, *]; done) | (simp [go_sem, ↓IntWalk.iteOmega, *]; with_reducible rfl)); (intro hG5); clear hG4; (try simp only [Act.put, List.setIfInBounds_toArray, List.set_cons_zero, List.set_cons_succ])
        refine wpAnyG_any (i := 5) (v := ?_) rfl hG5 (by kernel_rfl) (by kernel_rfl) (by kernel_rfl) rfl (fun _ _ _ h => h) (Or.inl ⟨by rfl, ?_⟩) ?_; rotate_left; (intro wS hSw; (try dsimp only at hSw); first | (go_simp; done) | (go_simp; with_reducible rfl) | (simp [go_sem, ↓IntWalk.iteOmega, *]; done) | (simp [go_sem, ↓IntWalk.iteOmega, *]; with_reducible rfl)); (intro hG6); clear hG5; (try simp only [Act.put, List.setIfInBounds_toArray, List.set_cons_zero, List.set_cons_succ])
        refine wpAnyG_take (i := 6) (v := ?_) rfl hG6 (by kernel_rfl) (by kernel_rfl) (by kernel_rfl) rfl (by kernel_rfl) (fun _ _ _ h => h) (Or.inl ⟨by rfl, ?_⟩) ?_; rotate_left; (intro wS hSw; (try dsimp only at hSw); first | (go_simp; done) | (go_simp; with_reducible rfl) | (simp [go_sem, ↓IntWalk.iteOmega, *]; done) | (simp [go_sem, ↓IntWalk.iteOmega, *]; with_reducible rfl)); (intro hG7); clear hG6; (try simp only [Act.put, List.setIfInBounds_toArray, List.set_cons_zero, List.set_cons_succ])
        refine wpAnyG_any (i := 9) (v := ?_) rfl hG7 (by kernel_rfl) (by kernel_rfl) (by kernel_rfl) rfl (fun _ _ _ h => h) (Or.inl ⟨by rfl, ?_⟩) ?_; rotate_left; (intro wS hSw; (try dsimp only at hSw); first | (go_simp; done) | (go_simp; with_reducible rfl) | (simp [go_sem, ↓IntWalk.iteOmega, *]; done) | (simp [go_sem, ↓IntWalk.iteOmega, *]; with_reducible rfl)); (intro hG8); clear hG7; (try simp only [Act.put, List.setIfInBounds_toArray, List.set_cons_zero, List.set_cons_succ])
        refine wpAnyG_take (i := 10) (v := ?_) rfl hG8 (by kernel_rfl) (by kernel_rfl) (by kernel_rfl) rfl (by kernel_rfl) (fun _ _ _ h => h) (Or.inl ⟨by rfl, ?_⟩) ?_; rotate_left; (intro wS hSw; (try dsimp only at hSw); first | (go_simp; done) | (go_simp; with_reducible rfl) | (simp [go_sem, ↓IntWalk.iteOmega, *]; done) | (simp [go_sem, ↓IntWalk.iteOmega, *]; with_reducible rfl)); (intro hG9); clear hG8; (try simp only [Act.put, List.setIfInBounds_toArray, List.set_cons_zero, List.set_cons_succ])
        refine wpAnyG_any (i := 11) (v := ?_) rfl hG9 (by kernel_rfl) (by kernel_rfl) (by kernel_rfl) rfl (fun _ _ _ h => h) (Or.inl ⟨by rfl, ?_⟩) ?_; rotate_left; (intro wS hSw; (try dsimp only at hSw); first | (go_simp; done) | (go_simp; with_reducible rfl) | (simp [go_sem, ↓IntWalk.iteOmega, *]; done) | (simp [go_sem, ↓IntWalk.iteOmega, *]; with_reducible rfl)); (intro hG10); clear hG9; (try simp only [Act.put, List.setIfInBounds_toArray, List.set_cons_zero, List.set_cons_succ])
        refine wpAnyG_take (i := 12) (v := ?_) rfl hG10 (by kernel_rfl) (by kernel_rfl) (by kernel_rfl) rfl (by kernel_rfl) (fun _ _ _ h => h) (Or.inl ⟨by rfl, ?_⟩) ?_; rotate_left; (intro wS hSw; (try dsimp only at hSw); first | (go_simp; done) | (go_simp; with_reducible rfl) | (simp [go_sem, ↓IntWalk.iteOmega, *]; done) | (simp [go_sem, ↓IntWalk.iteOmega, *]; with_reducible rfl)); (intro hG11); clear hG10; (try simp only [Act.put, List.setIfInBounds_toArray, List.set_cons_zero, List.set_cons_succ])
        refine wpAnyG_any (i := 13) (v := ?_) rfl hG11 (by kernel_rfl) (by kernel_rfl) (by kernel_rfl) rfl (fun _ _ _ h => h) (Or.inl ⟨by rfl, ?_⟩) ?_; rotate_left; (intro wS hSw; (try dsimp only at hSw); first | (go_simp; done) | (go_simp; with_reducible rfl) | (simp [go_sem, ↓IntWalk.iteOmega, *]; done) | (simp [go_sem, ↓IntWalk.iteOmega, *]; with_reducible rfl)); (intro hG12); clear hG11; (try simp only [Act.put, List.setIfInBounds_toArray, List.set_cons_zero, List.set_cons_succ])
        refine wpAnyG_any (i := 14) (v := ?_) rfl hG12 (by kernel_rfl) (by kernel_rfl) (by kernel_rfl) rfl (fun _ _ _ h => h) (Or.inl ⟨by rfl, ?_⟩) ?_; rotate_left; (intro wS hSw; (try dsimp only at hSw); first | (go_simp; done) | (go_simp; with_reducible rfl) | (simp [go_sem, ↓IntWalk.iteOmega, *]; done) | (simp [go_sem, ↓IntWalk.iteOmega, *]; with_reducible rfl)); (intro hG13); clear hG12; (try simp only [Act.put, List.setIfInBounds_toArray, List.set_cons_zero, List.set_cons_succ])
        refine wpAnyG_take (i := 15) (v := ?_) rfl hG13 (by kernel_rfl) (by kernel_rfl) (by kernel_rfl) rfl (by kernel_rfl) (fun _ _ _ h => h) (Or.inl ⟨by rfl, ?_⟩) ?_; rotate_left; (intro wS hSw; (try dsimp only at hSw); first | (go_simp; done) | (go_simp; with_reducible rfl) | (simp [go_sem, ↓IntWalk.iteOmega, *]; done) | (simp [go_sem, ↓IntWalk.iteOmega, *]; with_reducible rfl)); (intro hG14); clear hG13; (try simp only [Act.put, List.setIfInBounds_toArray, List.set_cons_zero, List.set_cons_succ])
        refine wpAnyG_ready (rs := [7, 16]) (by kernel_rfl) (by simp) (AllG.cons rfl hG14 (fun K hK => ?_) (AllG.cons rfl hG14 (fun K hK => ?_) AllG.nil))
        (go_simp; (try replace hS16 := hS16.alloc (Obj.cells #[.int .i64 (nth t.vars k)] 3)); have hS7 := hT.src (nth t.vars k); (try simp only [World.size_alloc] at hS7); replace hT := hT.alloc (Obj.cells #[.int .i64 (nth t.vars k)] 3))
        refine hK.out _ _ (Or.inr (cif hT.bel)) (fun hG15 => ?_); clear hK hG14; (try simp only [Act.put, List.setIfInBounds_toArray, List.set_cons_zero, List.set_cons_succ])
        refine wpAnyG_ready (rs := [8, 16]) (by kernel_rfl) (by simp) (AllG.cons rfl hG15 (fun K hK => ?_) (AllG.cons rfl hG15 (fun K hK => ?_) AllG.nil))
        (refine step_append_src (by rfl) _ _ 22 (by rfl) (w2.heap.size + 1) 3 inf (.int .i64 0) 1 8 undI hi iz0 iz1 iz2 rfl (by decide) _ (keN (relB t) t.vars k).length (ic (keN (relB t) t.vars k)) (by rfl) hT.oV (some ⟨_, 0, none⟩) 1 1 [.int .i64 (nth t.vars k)] (by rfl) hS7.src (by unfold maxLen; omega) (by omega) hT.sz ?_; intro vV wV hoV hgV haV; obtain ⟨AV', cV', rfl⟩ := own_shape hoV; (try replace hS16 := hS16.grown hgV hVlt); replace hT := hT.pushV hgV hoV haV; clear hS7)
        refine hK.out _ _ (Or.inr (cif hT.bel)) (fun hG16 => ?_); clear hK hG15; (try simp only [Act.put, List.setIfInBounds_toArray, List.set_cons_zero, List.set_cons_succ])
        refine wpAnyG_any (i := 18) (v := ?_) rfl hG16 (by kernel_rfl) (by kernel_rfl) (by kernel_rfl) rfl (fun _ _ _ h => h) (Or.inl ⟨by rfl, ?_⟩) ?_; rotate_left; (intro wS hSw; (try dsimp only at hSw); first | (go_simp; done) | (go_simp; with_reducible rfl) | (simp [go_sem, ↓IntWalk.iteOmega, *]; done) | (simp [go_sem, ↓IntWalk.iteOmega, *]; with_reducible rfl)); (intro hG17); clear hG16; (try simp only [Act.put, List.setIfInBounds_toArray, List.set_cons_zero, List.set_cons_succ])
        refine wpAnyG_ready (rs := [16]) (by kernel_rfl) (by simp) (AllG.cons rfl hG17 (fun K hK => ?_) AllG.nil)
        (go_simp; (try replace hS7 := hS7.alloc (Obj.cells #[.int .i64 (nth t.init k)] 3)); have hS16 := hT.src (nth t.init k); (try simp only [World.size_alloc] at hS16); replace hT := hT.alloc (Obj.cells #[.int .i64 (nth t.init k)] 3))
        refine hK.out _ _ (Or.inr (cif hT.bel)) (fun hG18 => ?_); clear hK hG17; (try simp only [Act.put, List.setIfInBounds_toArray, List.set_cons_zero, List.set_cons_succ])
        refine wpAnyG_ready (rs := [17]) (by kernel_rfl) (by simp) (AllG.cons rfl hG18 (fun K hK => ?_) AllG.nil)
        (refine step_append_src (by rfl) _ _ 22 (by rfl) (w2.heap.size + 1) 3 inf (.int .i64 0) 1 8 undI hi iz0 iz1 iz2 rfl (by decide) _ (keN (relB t) t.init k).length (ic (keN (relB t) t.init k)) (by rfl) hT.oI (some ⟨_, 0, none⟩) 1 1 [.int .i64 (nth t.init k)] (by rfl) hS16.src (by unfold maxLen; omega) (by omega) hT.sz ?_; intro vI wI hoI hgI haI; obtain ⟨AI', cI', rfl⟩ := own_shape hoI; (try replace hS7 := hS7.grown hgI hIlt); replace hT := hT.pushI hgI hoI haI; clear hS16)
        refine hK.out _ _ (Or.inl rfl) (fun hG19 => ?_); clear hK hG18; (try simp only [Act.put, List.setIfInBounds_toArray, List.set_cons_zero, List.set_cons_succ])
        refine wpAnyG_ready (rs := [19]) (by kernel_rfl) (by simp) (AllG.cons rfl hG19 (fun K hK => ?_) AllG.nil)
        (have hcc := cif hT.bel; have hff := fif hT.bel; first | (go_simp; done) | (simp [go_sem, ↓IntWalk.iteOmega, *]))
        refine hK.out _ _ (Or.inl rfl) (fun hG20 => ?_); clear hK hG19; (try simp only [Act.put, List.setIfInBounds_toArray, List.set_cons_zero, List.set_cons_succ])
        refine wpAnyG_any (i := 20) (v := ?_) rfl hG20 (by kernel_rfl) (by kernel_rfl) (by kernel_rfl) rfl (fun _ _ _ h => h) (Or.inl ⟨by rfl, ?_⟩) ?_; rotate_left; (intro wS hSw; (try dsimp only at hSw); first | (go_simp; done) | (go_simp; with_reducible rfl) | (simp [go_sem, ↓IntWalk.iteOmega, *]; done) | (simp [go_sem, ↓IntWalk.iteOmega, *]; with_reducible rfl)); (intro hG21); clear hG20; (try simp only [Act.put, List.setIfInBounds_toArray, List.set_cons_zero, List.set_cons_succ])
        refine wpAnyG_ready (rs := [21]) (by kernel_rfl) (by simp) (AllG.cons rfl hG21 (fun K hK => ?_) AllG.nil)
        (go_simp)
        refine hK.out _ _ (Or.inl rfl) (fun hG22 => ?_); clear hK hG21; (try simp only [Act.put, List.setIfInBounds_toArray, List.set_cons_zero, List.set_cons_succ])
        refine wpAnyG_done (by kernel_rfl) ?_ _; clear hG22
        rotate_left
        (go_simp; (try replace hS7 := hS7.alloc (Obj.cells #[.int .i64 (nth t.init k)] 3)); have hS16 := hT.src (nth t.init k); (try simp only [World.size_alloc] at hS16); replace hT := hT.alloc (Obj.cells #[.int .i64 (nth t.init k)] 3))
        refine hK.out _ _ (Or.inr (cif hT.bel)) (fun hG16 => ?_); clear hK hG15; (try simp only [Act.put, List.setIfInBounds_toArray, List.set_cons_zero, List.set_cons_succ])
        refine wpAnyG_ready (rs := [8]) (by kernel_rfl) (by simp) (AllG.cons rfl hG16 (fun K hK => ?_) AllG.nil)
        (refine step_append_src (by rfl) _ _ 22 (by rfl) (w2.heap.size + 1) 3 inf (.int .i64 0) 1 8 undI hi iz0 iz1 iz2 rfl (by decide) _ (keN (relB t) t.vars k).length (ic (keN (relB t) t.vars k)) (by rfl) hT.oV (some ⟨_, 0, none⟩) 1 1 [.int .i64 (nth t.vars k)] (by rfl) hS7.src (by unfold maxLen; omega) (by omega) hT.sz ?_; intro vV wV hoV hgV haV; obtain ⟨AV', cV', rfl⟩ := own_shape hoV; (try replace hS16 := hS16.grown hgV hVlt); replace hT := hT.pushV hgV hoV haV; clear hS7)
        refine hK.out _ _ (Or.inr (cif hT.bel)) (fun hG17 => ?_); clear hK hG16; (try simp only [Act.put, List.setIfInBounds_toArray, List.set_cons_zero, List.set_cons_succ])
        refine wpAnyG_any (i := 18) (v := ?_) rfl hG17 (by kernel_rfl) (by kernel_rfl) (by kernel_rfl) rfl (fun _ _ _ h => h) (Or.inl ⟨by rfl, ?_⟩) ?_; rotate_left; (intro wS hSw; (try dsimp only at hSw); first | (go_simp; done) | (go_simp; with_reducible rfl) | (simp [go_sem, ↓IntWalk.iteOmega, *]; done) | (simp [go_sem, ↓IntWalk.iteOmega, *]; with_reducible rfl)); (intro hG18); clear hG17; (try simp only [Act.put, List.setIfInBounds_toArray, List.set_cons_zero, List.set_cons_succ])
        refine wpAnyG_ready (rs := [17]) (by kernel_rfl) (by simp) (AllG.cons rfl hG18 (fun K hK => ?_) AllG.nil)
        (refine step_append_src (by rfl) _ _ 22 (by rfl) (w2.heap.size + 1) 3 inf (.int .i64 0) 1 8 undI hi iz0 iz1 iz2 rfl (by decide) _ (keN (relB t) t.init k).length (ic (keN (relB t) t.init k)) (by rfl) hT.oI (some ⟨_, 0, none⟩) 1 1 [.int .i64 (nth t.init k)] (by rfl) hS16.src (by unfold maxLen; omega) (by omega) hT.sz ?_; intro vI wI hoI hgI haI; obtain ⟨AI', cI', rfl⟩ := own_shape hoI; (try replace hS7 := hS7.grown hgI hIlt); replace hT := hT.pushI hgI hoI haI; clear hS16)
        refine hK.out _ _ (Or.inl rfl) (fun hG19 => ?_); clear hK hG18; (try simp only [Act.put, List.setIfInBounds_toArray, List.set_cons_zero, List.set_cons_succ])
        refine wpAnyG_ready (rs := [19]) (by kernel_rfl) (by simp) (AllG.cons rfl hG19 (fun K hK => ?_) AllG.nil)
        (have hcc := cif hT.bel; have hff := fif hT.bel; first | (go_simp; done) | (simp [go_sem, ↓IntWalk.iteOmega, *]))
        refine hK.out _ _ (Or.inl rfl) (fun hG20 => ?_); clear hK hG19; (try simp only [Act.put, List.setIfInBounds_toArray, List.set_cons_zero, List.set_cons_succ])
        refine wpAnyG_any (i := 20) (v := ?_) rfl hG20 (by kernel_rfl) (by kernel_rfl) (by kernel_rfl) rfl (fun _ _ _ h => h) (Or.inl ⟨by rfl, ?_⟩) ?_; rotate_left; (intro wS hSw; (try dsimp only at hSw); first | (go_simp; done) | (go_simp; with_reducible rfl) | (simp [go_sem, ↓IntWalk.iteOmega, *]; done) | (simp [go_sem, ↓IntWalk.iteOmega, *]; with_reducible rfl)); (intro hG21); clear hG20; (try simp only [Act.put, List.setIfInBounds_toArray, List.set_cons_zero, List.set_cons_succ])
        refine wpAnyG_ready (rs := [21]) (by kernel_rfl) (by simp) (AllG.cons rfl hG21 (fun K hK => ?_) AllG.nil)
        (go_simp)
        refine hK.out _ _ (Or.inl rfl) (fun hG22 => ?_); clear hK hG21; (try simp only [Act.put, List.setIfInBounds_toArray, List.set_cons_zero, List.set_cons_succ])
        refine wpAnyG_done (by kernel_rfl) ?_ _; clear hG22
        rotate_left
        (go_simp; (try replace hS7 := hS7.alloc (Obj.cells #[.int .i64 (nth t.init k)] 3)); have hS16 := hT.src (nth t.init k); (try simp only [World.size_alloc] at hS16); replace hT := hT.alloc (Obj.cells #[.int .i64 (nth t.init k)] 3))
        refine hK.out _ _ (Or.inr (cif hT.bel)) (fun hG15 => ?_); clear hK hG14; (try simp only [Act.put, List.setIfInBounds_toArray, List.set_cons_zero, List.set_cons_succ])
        refine wpAnyG_ready (rs := [7]) (by kernel_rfl) (by simp) (AllG.cons rfl hG15 (fun K hK => ?_) AllG.nil)
        (go_simp; (try replace hS16 := hS16.alloc (Obj.cells #[.int .i64 (nth t.vars k)] 3)); have hS7 := hT.src (nth t.vars k); (try simp only [World.size_alloc] at hS7); replace hT := hT.alloc (Obj.cells #[.int .i64 (nth t.vars k)] 3))
        refine hK.out _ _ (Or.inr (cif hT.bel)) (fun hG16 => ?_); clear hK hG15; (try simp only [Act.put, List.setIfInBounds_toArray, List.set_cons_zero, List.set_cons_succ])
        refine wpAnyG_ready (rs := [8]) (by kernel_rfl) (by simp) (AllG.cons rfl hG16 (fun K hK => ?_) AllG.nil)
        (refine step_append_src (by rfl) _ _ 22 (by rfl) (w2.heap.size + 1) 3 inf (.int .i64 0) 1 8 undI hi iz0 iz1 iz2 rfl (by decide) _ (keN (relB t) t.vars k).length (ic (keN (relB t) t.vars k)) (by rfl) hT.oV (some ⟨_, 0, none⟩) 1 1 [.int .i64 (nth t.vars k)] (by rfl) hS7.src (by unfold maxLen; omega) (by omega) hT.sz ?_; intro vV wV hoV hgV haV; obtain ⟨AV', cV', rfl⟩ := own_shape hoV; (try replace hS16 := hS16.grown hgV hVlt); replace hT := hT.pushV hgV hoV haV; clear hS7)
        refine hK.out _ _ (Or.inr (cif hT.bel)) (fun hG17 => ?_); clear hK hG16; (try simp only [Act.put, List.setIfInBounds_toArray, List.set_cons_zero, List.set_cons_succ])
        refine wpAnyG_any (i := 18) (v := ?_) rfl hG17 (by kernel_rfl) (by kernel_rfl) (by kernel_rfl) rfl (fun _ _ _ h => h) (Or.inl ⟨by rfl, ?_⟩) ?_; rotate_left; (intro wS hSw; (try dsimp only at hSw); first | (go_simp; done) | (go_simp; with_reducible rfl) | (simp [go_sem, ↓IntWalk.iteOmega, *]; done) | (simp [go_sem, ↓IntWalk.iteOmega, *]; with_reducible rfl)); (intro hG18); clear hG17; (try simp only [Act.put, List.setIfInBounds_toArray, List.set_cons_zero, List.set_cons_succ])
        refine wpAnyG_ready (rs := [17]) (by kernel_rfl) (by simp) (AllG.cons rfl hG18 (fun K hK => ?_) AllG.nil)
        (refine step_append_src (by rfl) _ _ 22 (by rfl) (w2.heap.size + 1) 3 inf (.int .i64 0) 1 8 undI hi iz0 iz1 iz2 rfl (by decide) _ (keN (relB t) t.init k).length (ic (keN (relB t) t.init k)) (by rfl) hT.oI (some ⟨_, 0, none⟩) 1 1 [.int .i64 (nth t.init k)] (by rfl) hS16.src (by unfold maxLen; omega) (by omega) hT.sz ?_; intro vI wI hoI hgI haI; obtain ⟨AI', cI', rfl⟩ := own_shape hoI; (try replace hS7 := hS7.grown hgI hIlt); replace hT := hT.pushI hgI hoI haI; clear hS16)
        refine hK.out _ _ (Or.inl rfl) (fun hG19 => ?_); clear hK hG18; (try simp only [Act.put, List.setIfInBounds_toArray, List.set_cons_zero, List.set_cons_succ])
        refine wpAnyG_ready (rs := [19]) (by kernel_rfl) (by simp) (AllG.cons rfl hG19 (fun K hK => ?_) AllG.nil)
        (have hcc := cif hT.bel; have hff := fif hT.bel; first | (go_simp; done) | (simp [go_sem, ↓IntWalk.iteOmega, *]))
        refine hK.out _ _ (Or.inl rfl) (fun hG20 => ?_); clear hK hG19; (try simp only [Act.put, List.setIfInBounds_toArray, List.set_cons_zero, List.set_cons_succ])
        refine wpAnyG_any (i := 20) (v := ?_) rfl hG20 (by kernel_rfl) (by kernel_rfl) (by kernel_rfl) rfl (fun _ _ _ h => h) (Or.inl ⟨by rfl, ?_⟩) ?_; rotate_left; (intro wS hSw; (try dsimp only at hSw); first | (go_simp; done) | (go_simp; with_reducible rfl) | (simp [go_sem, ↓IntWalk.iteOmega, *]; done) | (simp [go_sem, ↓IntWalk.iteOmega, *]; with_reducible rfl)); (intro hG21); clear hG20; (try simp only [Act.put, List.setIfInBounds_toArray, List.set_cons_zero, List.set_cons_succ])
        refine wpAnyG_ready (rs := [21]) (by kernel_rfl) (by simp) (AllG.cons rfl hG21 (fun K hK => ?_) AllG.nil)
        (go_simp)
        refine hK.out _ _ (Or.inl rfl) (fun hG22 => ?_); clear hK hG21; (try simp only [Act.put, List.setIfInBounds_toArray, List.set_cons_zero, List.set_cons_succ])
        refine wpAnyG_done (by kernel_rfl) ?_ _; clear hG22
        rotate_left
        all_goals go_wp2
        all_goals (go_roundw; (case rel => exact ⟨k + 1, _, _, by omega, by go_num, by rw [toN_yes E1.out, ← keN_len (relB t) t.vars k, keN_yes E1.out, keN_yes E1.out]; exact (hT.set _ (Nat.lt_succ_self _)).set _ (Nat.lt_succ_self _), ((hbox8.low hT.bel (Nat.lt_succ_self _)).set0 _).set1 _, ((hbw8.trans (hT.bel.mono (by have := hbw8.size; omega))).setCell (Nat.le_refl _) _).setCell (Nat.le_refl _) _⟩); (case measure => simp [intOf]; omega))
    · obtain rfl : k = t.vars.length := by omega
      obtain ⟨tl, htl⟩ : ∃ tl, toN (relB t) t.vars.length = tl := ⟨_, rfl⟩
      obtain ⟨lv, hlv⟩ : ∃ l, keN (relB t) t.vars t.vars.length = l := ⟨_, rfl⟩
      obtain ⟨li, hli⟩ : ∃ l, keN (relB t) t.init t.vars.length = l := ⟨_, rfl⟩
      rw [htl, hlv, hli] at hT
      rw [hlv] at hbox
      have Ltl := Lib.hid (show tl.length = t.vars.length by rw [← htl, toN_len])
      have Llv := Lib.hid (show lv.length ≤ 64 by rw [← hlv, keN_len]; have := cntR_le (relB t) t.vars.length; omega)
      have Lli := Lib.hid (show li.length ≤ 64 by rw [← hli, keN_len]; have := cntR_le (relB t) t.vars.length; omega)
      have Hr := Lib.hid (show resT t = ⟨lv, li, resF tl t.goal, resON tl t.ops t.ops.length⟩ by unfold resT resTo; rw [htl, hlv, hli])
      have Ht := Lib.hid (show resTo t = tl from htl)
      skip
      clear htl hlv hli
      obtain ⟨AI, cI, rfl⟩ := own_shape hT.oI
      obtain ⟨AL, cL, rfl, zL, hAL⟩ := own_got hT.oL (by have := Ltl.out; omega)
      have hbw := hbw2.trans (hbel.mono (by omega))
      have k3 := restricted_any t.goal tl ag AL cg cL wr (ht.goal.up hbw) hAL HR.out.ng (fun k hk => by have := fa_at HR.out.goal hk; have := Ltl.out; omega)
      obtain ⟨lg, hlg⟩ : ∃ l, resFN tl t.goal t.goal.length = l := ⟨_, rfl⟩
      rw [hlg] at k3
      skip
      have Llg := Lib.hid (show lg.length ≤ 64 by rw [← hlg]; have := resFN_len tl t.goal t.goal.length; have := HR.out.ng; omega)
      have Hlg := Lib.hid (show resF tl t.goal = lg from hlg)
      clear hlg
      obtain ⟨z0, y0, y1, y2, y3⟩ := id hbx
      dsimp only at y0 y1 y2 y3
      go_wp2_with fail
      refine k3.mono ?_
      rintro e w4 ⟨⟨G, rfl, hG⟩, hb4⟩
      obtain ⟨AG, cG, rfl⟩ := own_shape hG
      have hbox4 := hbox.up hb4
      have hbwl := (hbel.trans (hb4.mono (show w2.heap.size ≤ wr.heap.size by omega))).setCell (p := ⟨w2.heap.size, 2, none⟩) (by show w2.heap.size ≤ w2.heap.size; omega) (.slice AG lg.length cG)
      have hboxl := hbox4.set2 (.slice AG lg.length cG)
      have hVl := own_set (p := ⟨w2.heap.size, 2, none⟩) (u := .slice AG lg.length cG) (own_below hT.oV hb4) (by show w2.heap.size < (w2.heap.size + 1); omega)
      have hIl := own_set (p := ⟨w2.heap.size, 2, none⟩) (u := .slice AG lg.length cG) (own_below hT.oI hb4) (by show w2.heap.size < (w2.heap.size + 1); omega)
      have hLl := own_set (p := ⟨w2.heap.size, 2, none⟩) (u := .slice AG lg.length cG) (own_below hT.oL hb4) (Nat.lt_succ_self _)
      have hGl := own_set (p := ⟨w2.heap.size, 2, none⟩) (u := .slice AG lg.length cG) hG (show w2.heap.size < wr.heap.size by omega)
      have hz4 : wr.heap.size ≤ w4.heap.size := hb4.size
      have hzl : (w4.setCell ⟨w2.heap.size, 2, none⟩ (.slice AG lg.length cG)).heap.size = w4.heap.size := by simp [World.setCell]
      clear z0 y0 y1 y2 y3 b0 b1 b2 b3 b4 b5
      have hbx4 := hbx.up hb4
      obtain ⟨b0, b1, b2, b3, b4, b5⟩ := id hbox4
      obtain ⟨z0, y0, y1, y2, y3⟩ := id hbx4
      dsimp only at y0 y1 y2 y3
      go_wp2
      obtain ⟨wl, hwl⟩ : ∃ wl : World, w4.setCell ⟨w2.heap.size, 2, none⟩ (.slice AG lg.length cG) = wl := ⟨_, rfl⟩
      rw [hwl] at hbwl hboxl hVl hIl hLl hGl hzl
      rw [hwl]
      clear hwl z0 y0 y1 y2 y3 b0 b1 b2 b3 b4 b5 hbx4 hbox4 hG hT hAL hbox hbx
      have HVl := Lib.hid hVl
      have HIl := Lib.hid hIl
      have HGl := Lib.hid hGl
      have HLl := Lib.hid hLl
      clear hVl hIl hGl hLl
      have hbwl' := hbw2.trans (hbwl.mono (by omega))
      go_loopw [72] (fun i wr => ∃ (k : Nat) (O : Value) (xs : List Value), k ≤ t.ops.length ∧ i = .int .i64 k ∧ wr.ownsRow wl.heap.size 74 4 O (resON tl t.ops k).length xs ∧ OpIs wr (fun b => b < wl.heap.size ∨ O.ownBlock = some b) xs (resON tl t.ops k) ∧ Box4 wr w2.heap.size (.slice AV lv.length cV) (.slice AI li.length cI) (.slice AG lg.length cG) O ∧ Kb (fun b => b = w2.heap.size) wl wr) (fun i _ => t.ops.length - (intOf i).toNat)
      case atStart => exact ⟨0, .slice none 0 0, [], by omega, rfl, World.ownsRow_nil _ _ _ _, OpIs.nil _ _, hboxl, Kb.refl _ _⟩
      case round =>
        obtain ⟨k, O, xs, hk, rfl, hO, hOp, hbox, hkb⟩ := hrel
        obtain ⟨wt, rfl⟩ : ∃ wt : World, wt = wr := ⟨_, rfl⟩
        have hkz := hkb.size
        have hbw2t : Below w2.heap.size w2 wt := hbwl.trans (hkb.below (fun b h e => by omega) (by omega))
        have hbw : Below w.heap.size w wt := hbw2.trans (hbw2t.mono (by omega))
        have hbx := hbx2.low hbw2t (by omega)
        obtain ⟨AO, cO, rfl⟩ := own_shape hO
        obtain ⟨AL', cL', eL, zL', hLt⟩ := own_got (own_kb HLl.out hkb (fun g hg e => by have := (HLl.out.lt g hg).1; omega)) (by have := Ltl.out; omega)
        cases eL
        by_cases hlt : k < t.ops.length
        · obtain ⟨b, o, S, c, T, d, ea, hb, d0, q0, d1, d2, f2, d3, e3⟩ := ht.ops.at2 hbw hlt
          dsimp only at ea
          subst ea
          obtain ⟨z0, y0, y1, y2, y3⟩ := id hbx
          dsimp only at y0 y1 y2 y3
          have g2 : b < wt.heap.size := by have := hbw.size; omega
          have j1 := f2.len
          have j2 := e3.len
          have npr := HR.out.np k hlt
          have nef := HR.out.ne k hlt
          obtain ⟨lp, hlp⟩ : ∃ l, resFN tl (opr t.ops k).pre (opr t.ops k).pre.length = l := ⟨_, rfl⟩
          have k4 : ∀ w1, Below wt.heap.size wt w1 → Calls Try.prog 58 #[.slice S (opr t.ops k).pre.length c, .slice AL tl.length cL] w1 fun e w' => (∃ v, e = .returned v ∧ w'.ownsRow w1.heap.size 48 2 v lp.length (fcl lp)) ∧ Below w1.heap.size w1 w' := fun w1 hb1 => by
            have := restricted_any (opr t.ops k).pre tl S AL c cL w1 (f2.keep (fun _ hp => (hbw.trans (hb1.mono hbw.size)).cell hp) (Nat.le_trans hbw.size hb1.size)) (hLt.up hb1) npr (fun j hj => by have := fa_at (HR.out.pre k hlt) hj; have := Ltl.out; omega)
            rw [hlp] at this
            skip
            exact this
          have Llp := Lib.hid (show lp.length ≤ 64 by rw [← hlp]; have := resFN_len tl (opr t.ops k).pre (opr t.ops k).pre.length; omega)
          have Hlp := Lib.hid (show resF tl (opr t.ops k).pre = lp from hlp)
          have K4 := Lib.hid k4
          have HO := Lib.hid hO
          have HOp := Lib.hid hOp
          have HLt := Lib.hid hLt
          clear hlp k4 hO hOp hLt
          go_upto_region 18 with fail
          go_cut [12, 13] (fun v12 v13 wx => ∃ (xb : Nat) (P : Value), v12 = .pointer (some ⟨wt.heap.size, 0, none⟩) ∧ v13 = .pointer (some ⟨xb, 0, none⟩) ∧ Box4 wx xb (.string (opr t.ops k).name) (.int .i64 (opr t.ops k).cost) P (.slice none 0 0) ∧ wt.heap.size < xb ∧ wx.ownsRow (wt.heap.size + 1) 48 2 P lp.length (fcl lp) ∧ P.ownBlock ≠ some xb ∧ wx.cell? ⟨wt.heap.size, 3, none⟩ = some (.slice T (opr t.ops k).effs.length d) ∧ Below wt.heap.size wt wx)
          case first =>
            go_wp2_with fail
            refine wp_region_G 10 (fun w' => ∀ b' o', w'.cell? ⟨b', o', none⟩ = if b' < wt.heap.size + 1 then (wt.alloc (Obj.cells #[.string (opr t.ops k).name, .int .i64 (opr t.ops k).cost, .slice S (opr t.ops k).pre.length c, .slice T (opr t.ops k).effs.length d] 74)).cell? ⟨b', o', none⟩ else hidC w' b' o') (by kernel_rfl) (cif (Below.refl _ _).drew) ?_
            intro hG0
            refine wpAnyG_any (i := 0) (v := ?_) rfl hG0 (by kernel_rfl) (by kernel_rfl) (by kernel_rfl) rfl (fun _ _ _ h => h) (Or.inl ⟨by rfl, ?_⟩) ?_; rotate_left; (intro wS hSw; (try dsimp only at hSw); first | (go_simp; done) | (go_simp; with_reducible rfl) | (simp [go_sem, ↓IntWalk.iteOmega, *]; done) | (simp [go_sem, ↓IntWalk.iteOmega, *]; with_reducible rfl)); (intro hG1); clear hG0; (try simp only [Act.put, List.setIfInBounds_toArray, List.set_cons_zero, List.set_cons_succ])
            refine wpAnyG_take (i := 1) (v := ?_) rfl hG1 (by kernel_rfl) (by kernel_rfl) (by kernel_rfl) rfl (by kernel_rfl) (fun _ _ _ h => h) (Or.inl ⟨by rfl, ?_⟩) ?_; rotate_left; (intro wS hSw; (try dsimp only at hSw); first | (go_simp; done) | (go_simp; with_reducible rfl) | (simp [go_sem, ↓IntWalk.iteOmega, *]; done) | (simp [go_sem, ↓IntWalk.iteOmega, *]; with_reducible rfl)); (intro hG2); clear hG1; (try simp only [Act.put, List.setIfInBounds_toArray, List.set_cons_zero, List.set_cons_succ])
            refine wpAnyG_any (i := 2) (v := ?_) rfl hG2 (by kernel_rfl) (by kernel_rfl) (by kernel_rfl) rfl (fun _ _ _ h => h) (Or.inl ⟨by rfl, ?_⟩) ?_; rotate_left; (intro wS hSw; (try dsimp only at hSw); first | (go_simp; done) | (go_simp; with_reducible rfl) | (simp [go_sem, ↓IntWalk.iteOmega, *]; done) | (simp [go_sem, ↓IntWalk.iteOmega, *]; with_reducible rfl)); (intro hG3); clear hG2; (try simp only [Act.put, List.setIfInBounds_toArray, List.set_cons_zero, List.set_cons_succ])
            refine wpAnyG_take (i := 3) (v := ?_) rfl hG3 (by kernel_rfl) (by kernel_rfl) (by kernel_rfl) rfl (by kernel_rfl) (fun _ _ _ h => h) (Or.inl ⟨by rfl, ?_⟩) ?_; rotate_left; (intro wS hSw; (try dsimp only at hSw); first | (go_simp; done) | (go_simp; with_reducible rfl) | (simp [go_sem, ↓IntWalk.iteOmega, *]; done) | (simp [go_sem, ↓IntWalk.iteOmega, *]; with_reducible rfl)); (intro hG4); clear hG3; (try simp only [Act.put, List.setIfInBounds_toArray, List.set_cons_zero, List.set_cons_succ])
            refine wpAnyG_any (i := 4) (v := ?_) rfl hG4 (by kernel_rfl) (by kernel_rfl) (by kernel_rfl) rfl (fun _ _ _ h => h) (Or.inl ⟨by rfl, ?_⟩) ?_; rotate_left; (intro wS hSw; (try dsimp only at hSw); first | (go_simp; done) | (go_simp; with_reducible rfl) | (simp [go_sem, ↓IntWalk.iteOmega, *]; done) | (simp [go_sem, ↓IntWalk.iteOmega, *]; with_reducible rfl)); (intro hG5); clear hG4; (try simp only [Act.put, List.setIfInBounds_toArray, List.set_cons_zero, List.set_cons_succ])
            refine wpAnyG_take (i := 5) (v := ?_) rfl hG5 (by kernel_rfl) (by kernel_rfl) (by kernel_rfl) rfl (by kernel_rfl) (fun _ _ _ h => h) (Or.inl ⟨by rfl, ?_⟩) ?_; rotate_left; (intro wS hSw; (try dsimp only at hSw); first | (go_simp; done) | (go_simp; with_reducible rfl) | (simp [go_sem, ↓IntWalk.iteOmega, *]; done) | (simp [go_sem, ↓IntWalk.iteOmega, *]; with_reducible rfl)); (intro hG6); clear hG5; (try simp only [Act.put, List.setIfInBounds_toArray, List.set_cons_zero, List.set_cons_succ])
            refine wpAnyG_any (i := 6) (v := ?_) rfl hG6 (by kernel_rfl) (by kernel_rfl) (by kernel_rfl) rfl (fun _ _ _ h => h) (Or.inl ⟨by rfl, ?_⟩) ?_; rotate_left; (intro wS hSw; (try dsimp only at hSw); first | (go_simp; done) | (go_simp; with_reducible rfl) | (simp [go_sem, ↓IntWalk.iteOmega, *]; done) | (simp [go_sem, ↓IntWalk.iteOmega, *]; with_reducible rfl)); (intro hG7); clear hG6; (try simp only [Act.put, List.setIfInBounds_toArray, List.set_cons_zero, List.set_cons_succ])
            refine wpAnyG_ready (rs := [7, 9]) (by kernel_rfl) (by simp) (AllG.cons rfl hG7 (fun K hK => ?_) (AllG.cons rfl hG7 (fun K hK => ?_) AllG.nil))
            (go_simp; go_at_call 58; refine (K4.out _ (by repeat (first | exact Below.refl _ _ | refine below_dN ?_ _ | refine Below.drew ?_ | refine Below.alloc ?_ (by first | omega | (simp; done) | (simp; omega)) _ | refine Below.setCell ?_ (by first | omega | (simp; done) | (simp; omega)) _ | refine below_step (by assumption) (by first | omega | (simp; done) | (simp; omega)) ?_))).mono ?_; rintro e w5 ⟨⟨P, rfl, hP⟩, hb5⟩; obtain ⟨AP, cP, rfl⟩ := own_shape hP; obtain ⟨hc5, hf5, hz5, hlt5, hle5⟩ := cellsIf hb5 (by (try simp); exact rfl))
            refine hK.out _ _ (Or.inr (cif (by repeat (first | exact Below.refl _ _ | refine below_dN ?_ _ | refine Below.drew ?_ | refine Below.alloc ?_ (by first | omega | (simp; done) | (simp; omega)) _ | refine Below.setCell ?_ (by first | omega | (simp; done) | (simp; omega)) _ | refine below_step (by assumption) (by first | omega | (simp; done) | (simp; omega)) ?_)))) (fun hG8 => ?_); clear hK hG7; (try simp only [Act.put, List.setIfInBounds_toArray, List.set_cons_zero, List.set_cons_succ])
            refine wpAnyG_any (i := 8) (v := ?_) rfl hG8 (by kernel_rfl) (by kernel_rfl) (by kernel_rfl) rfl (fun _ _ _ h => h) (Or.inl ⟨by rfl, ?_⟩) ?_; rotate_left; (intro wS hSw; (try dsimp only at hSw); first | (go_simp; done) | (go_simp; with_reducible rfl) | (simp [go_sem, ↓IntWalk.iteOmega, *]; done) | (simp [go_sem, ↓IntWalk.iteOmega, *]; with_reducible rfl)); (intro hG9); clear hG8; (try simp only [Act.put, List.setIfInBounds_toArray, List.set_cons_zero, List.set_cons_succ])
            refine wpAnyG_ready (rs := [9]) (by kernel_rfl) (by simp) (AllG.cons rfl hG9 (fun K hK => ?_) AllG.nil)
            (go_simp)
            refine hK.out _ _ (Or.inr (cif (by repeat (first | exact Below.refl _ _ | refine below_dN ?_ _ | refine Below.drew ?_ | refine Below.alloc ?_ (by first | omega | (simp; done) | (simp; omega)) _ | refine Below.setCell ?_ (by first | omega | (simp; done) | (simp; omega)) _ | refine below_step (by assumption) (by first | omega | (simp; done) | (simp; omega)) ?_)))) (fun hG10 => ?_); clear hK hG9; (try simp only [Act.put, List.setIfInBounds_toArray, List.set_cons_zero, List.set_cons_succ])
            refine wpAnyG_ready (rs := [10]) (by kernel_rfl) (by simp) (AllG.cons rfl hG10 (fun K hK => ?_) AllG.nil)
            ((simp [go_sem, ↓IntWalk.iteOmega, *]))
            refine hK.out _ _ (Or.inl rfl) (fun hG11 => ?_); clear hK hG10; (try simp only [Act.put, List.setIfInBounds_toArray, List.set_cons_zero, List.set_cons_succ])
            refine wpAnyG_done (by kernel_rfl) ?_ _; clear hG11
            rotate_left
            (go_simp)
            refine hK.out _ _ (Or.inr (cif (by repeat (first | exact Below.refl _ _ | refine below_dN ?_ _ | refine Below.drew ?_ | refine Below.alloc ?_ (by first | omega | (simp; done) | (simp; omega)) _ | refine Below.setCell ?_ (by first | omega | (simp; done) | (simp; omega)) _ | refine below_step (by assumption) (by first | omega | (simp; done) | (simp; omega)) ?_)))) (fun hG8 => ?_); clear hK hG7; (try simp only [Act.put, List.setIfInBounds_toArray, List.set_cons_zero, List.set_cons_succ])
            refine wpAnyG_ready (rs := [7]) (by kernel_rfl) (by simp) (AllG.cons rfl hG8 (fun K hK => ?_) AllG.nil)
            (go_simp; go_at_call 58; refine (K4.out _ (by repeat (first | exact Below.refl _ _ | refine below_dN ?_ _ | refine Below.drew ?_ | refine Below.alloc ?_ (by first | omega | (simp; done) | (simp; omega)) _ | refine Below.setCell ?_ (by first | omega | (simp; done) | (simp; omega)) _ | refine below_step (by assumption) (by first | omega | (simp; done) | (simp; omega)) ?_))).mono ?_; rintro e w5 ⟨⟨P, rfl, hP⟩, hb5⟩; obtain ⟨AP, cP, rfl⟩ := own_shape hP; obtain ⟨hc5, hf5, hz5, hlt5, hle5⟩ := cellsIf hb5 (by (try simp); exact rfl))
            refine hK.out _ _ (Or.inr (cif (by repeat (first | exact Below.refl _ _ | refine below_dN ?_ _ | refine Below.drew ?_ | refine Below.alloc ?_ (by first | omega | (simp; done) | (simp; omega)) _ | refine Below.setCell ?_ (by first | omega | (simp; done) | (simp; omega)) _ | refine below_step (by assumption) (by first | omega | (simp; done) | (simp; omega)) ?_)))) (fun hG9 => ?_); clear hK hG8; (try simp only [Act.put, List.setIfInBounds_toArray, List.set_cons_zero, List.set_cons_succ])
            refine wpAnyG_any (i := 8) (v := ?_) rfl hG9 (by kernel_rfl) (by kernel_rfl) (by kernel_rfl) rfl (fun _ _ _ h => h) (Or.inl ⟨by rfl, ?_⟩) ?_; rotate_left; (intro wS hSw; (try dsimp only at hSw); first | (go_simp; done) | (go_simp; with_reducible rfl) | (simp [go_sem, ↓IntWalk.iteOmega, *]; done) | (simp [go_sem, ↓IntWalk.iteOmega, *]; with_reducible rfl)); (intro hG10); clear hG9; (try simp only [Act.put, List.setIfInBounds_toArray, List.set_cons_zero, List.set_cons_succ])
            refine wpAnyG_ready (rs := [10]) (by kernel_rfl) (by simp) (AllG.cons rfl hG10 (fun K hK => ?_) AllG.nil)
            ((simp [go_sem, ↓IntWalk.iteOmega, *]))
            refine hK.out _ _ (Or.inl rfl) (fun hG11 => ?_); clear hK hG10; (try simp only [Act.put, List.setIfInBounds_toArray, List.set_cons_zero, List.set_cons_succ])
            refine wpAnyG_done (by kernel_rfl) ?_ _; clear hG11
            rotate_left
            all_goals (go_wp2; go_meet)
            · exact ⟨w5.heap.size, _, rfl, rfl, Box4.new _ _ _ _ _ _, by omega, (own_base hP (by simp)).alloc _, own_low hP (.inl (Nat.le_refl _)), (Below.cell (B := wt.heap.size + 1) (w := wt.alloc (Obj.cells #[.string (opr t.ops k).name, .int .i64 (opr t.ops k).cost, .slice S (opr t.ops k).pre.length c, .slice T (opr t.ops k).effs.length d] 74)) (p := ⟨wt.heap.size, 3, none⟩) (by repeat (first | exact Below.refl _ _ | refine below_dN ?_ _ | refine Below.drew ?_ | refine Below.alloc ?_ (by first | omega | (simp; done) | (simp; omega)) _ | refine Below.setCell ?_ (by first | omega | (simp; done) | (simp; omega)) _ | refine below_step (by assumption) (by first | omega | (simp; done) | (simp; omega)) ?_)) (Nat.lt_succ_self _)).trans (by simp), by repeat (first | exact Below.refl _ _ | refine below_dN ?_ _ | refine Below.drew ?_ | refine Below.alloc ?_ (by first | omega | (simp; done) | (simp; omega)) _ | refine Below.setCell ?_ (by first | omega | (simp; done) | (simp; omega)) _ | refine below_step (by assumption) (by first | omega | (simp; done) | (simp; omega)) ?_)⟩
            · have hbn := Box4.up (Box4.drew (Box4.new _ _ _ _ _ _)) hb5
              simp only [World.size_alloc] at hbn
              have hne := own_low hP (g := wt.heap.size + 1) (.inr (by simp))
              exact ⟨wt.heap.size + 1, _, rfl, rfl, (((hbn.set0 _).set1 _).set2 _).set3 _, by omega, own_set' (own_set' (own_set' (own_set' (own_base hP (by first | omega | (simp; done) | (simp; omega))) hne) hne) hne) hne, hne, (Below.cell (B := wt.heap.size + 1) (w := wt.alloc (Obj.cells #[.string (opr t.ops k).name, .int .i64 (opr t.ops k).cost, .slice S (opr t.ops k).pre.length c, .slice T (opr t.ops k).effs.length d] 74)) (p := ⟨wt.heap.size, 3, none⟩) (by repeat (first | exact Below.refl _ _ | refine below_dN ?_ _ | refine Below.drew ?_ | refine Below.alloc ?_ (by first | omega | (simp; done) | (simp; omega)) _ | refine Below.setCell ?_ (by first | omega | (simp; done) | (simp; omega)) _ | refine below_step (by assumption) (by first | omega | (simp; done) | (simp; omega)) ?_)) (Nat.lt_succ_self _)).trans (by simp), by repeat (first | exact Below.refl _ _ | refine below_dN ?_ _ | refine Below.drew ?_ | refine Below.alloc ?_ (by first | omega | (simp; done) | (simp; omega)) _ | refine Below.setCell ?_ (by first | omega | (simp; done) | (simp; omega)) _ | refine below_step (by assumption) (by first | omega | (simp; done) | (simp; omega)) ?_)⟩
          case rest =>
            obtain ⟨xb, P, rfl, rfl, hxb, hxlt, hP, hPne, he3, hbx5⟩ := hcut
            obtain ⟨AP, cP, rfl⟩ := own_shape hP
            have hxbl := hxb.lt
            have hbwc : Below w.heap.size w wc := hbw.trans (hbx5.mono hbw.size)
            have hzc := hbx5.size
            clear z0 y0 y1 y2 y3 d0 d1 d2 d3 hbx
            obtain ⟨x0, x1, x2, x3, x4, x5⟩ := id hxb
            go_wp2
            clear x0 x1 x2 x3 x4 x5
            go_loopw [88] (fun i wr => ∃ (j : Nat) (E : Value) (es : List Value), j ≤ (opr t.ops k).effs.length ∧ i = .int .i64 j ∧ wr.ownsRow wc.heap.size 84 3 E (resEN tl (opr t.ops k).effs j).length es ∧ EfIs wr (fun b => b < wc.heap.size ∨ E.ownBlock = some b) es (resEN tl (opr t.ops k).effs j) ∧ Box4 wr xb (.string (opr t.ops k).name) (.int .i64 (opr t.ops k).cost) (.slice AP lp.length cP) E ∧ Kb (fun b => b = xb) wc wr) (fun i _ => (opr t.ops k).effs.length - (intOf i).toNat)
            case atStart => exact ⟨0, .slice none 0 0, [], by omega, rfl, World.ownsRow_nil _ _ _ _, EfIs.nil _ _, hxb, Kb.refl _ _⟩
            case round =>
              obtain ⟨j, E, es, hj, rfl, hE, hEf, hxb', hkx⟩ := hrel
              obtain ⟨wu, rfl⟩ : ∃ wu : World, wu = wr := ⟨_, rfl⟩
              have hkxz := hkx.size
              have hbtu : Below wt.heap.size wt wu := hbx5.trans (hkx.below (fun b h e => by omega) (by omega))
              have hbwu : Below w.heap.size w wu := hbw.trans (hbtu.mono hbw.size)
              obtain ⟨AE, cE, rfl⟩ := own_shape hE
              obtain ⟨x0, x1, x2, x3, x4, x5⟩ := id hxb'
              by_cases hlt2 : j < (opr t.ops k).effs.length
              · obtain ⟨b', o', S', c', ea', hb', i0, f5, i1, i2⟩ := e3.at2 hbwu hlt2
                subst ea'
                have g3 : b' < wu.heap.size := by have := hbwu.size; omega
                have j3 := f5.len
                have hev := HR.out.eff k hlt j hlt2
                have nwh := HR.out.nw k hlt j hlt2
                obtain ⟨ev, hv⟩ : ∃ ev : Nat, (eff (opr t.ops k).effs j).var = (ev : Int) := ⟨(eff (opr t.ops k).effs j).var.toNat, by omega⟩
                rw [hv] at i1 hev
                have hevn : ev < tl.length := by have := Ltl.out; omega
                have v0 : (0 : Int) ≤ (ev : Int) := by omega
                have v1 : (ev : Int) < (tl.length : Int) := by have := Ltl.out; omega
                obtain ⟨bl, ol, el, hbl, hcl⟩ := (HLt.out.up hbtu).at_ hevn
                subst el
                have dl := hcl ev hevn
                obtain ⟨lr, hlr⟩ : ∃ l, resFN tl (eff (opr t.ops k).effs j).whn (eff (opr t.ops k).effs j).whn.length = l := ⟨_, rfl⟩
                have hvn : (eff (opr t.ops k).effs j).var.toNat = ev := by omega
                have Hvn := Lib.hid hvn
                have Hlen := Lib.hid (resEN_len tl (opr t.ops k).effs j)
                clear hcl hv hev hvn
                by_cases hy : 0 ≤ nth tl ev
                · have HP := Lib.hid (show resEN tl (opr t.ops k).effs (j + 1) = resEN tl (opr t.ops k).effs j ++ [⟨lr, nth tl ev, (eff (opr t.ops k).effs j).val⟩] by rw [resEN_yes (by rw [Hvn.out]; exact hy)]; unfold resE1 resF; rw [hlr, Hvn.out])
                  have Llr := Lib.hid (show lr.length ≤ 64 by rw [← hlr]; have := resFN_len tl (eff (opr t.ops k).effs j).whn (eff (opr t.ops k).effs j).whn.length; omega)
                  have k5 : ∀ w1, Below wu.heap.size wu w1 → Calls Try.prog 58 #[.slice S' (eff (opr t.ops k).effs j).whn.length c', .slice (some ⟨bl, ol, none⟩) tl.length cL] w1 fun e w' => (∃ v, e = .returned v ∧ w'.ownsRow w1.heap.size 48 2 v lr.length (fcl lr)) ∧ Below w1.heap.size w1 w' := fun w1 hb1 => by
                    have := restricted_any (eff (opr t.ops k).effs j).whn tl S' (some ⟨bl, ol, none⟩) c' cL w1 (f5.keep (fun _ hp => (hbwu.trans (hb1.mono hbwu.size)).cell hp) (Nat.le_trans hbwu.size hb1.size)) ((HLt.out.up hbtu).up hb1) nwh (fun i hi => by have := fa_at (HR.out.whn k hlt j hlt2) hi; have := Ltl.out; omega)
                    rw [hlr] at this
                    skip
                    exact this
                  have K5 := Lib.hid k5
                  have hElt : ∀ g, (Value.slice AE (resEN tl (opr t.ops k).effs j).length cE).ownBlock = some g → g < wu.heap.size := fun g h => (hE.lt g h).2
                  have hlen := Hlen.out
                  clear k5 hlr
                  go_wp2_with fail
                  refine wp_region_G 15 (fun w' => ∀ b o, w'.cell? ⟨b, o, none⟩ = if b < wu.heap.size + 1 then (wu.alloc (Obj.cells #[.slice S' (eff (opr t.ops k).effs j).whn.length c', .int .i64 (ev : Int), .int .i64 (eff (opr t.ops k).effs j).val] 84)).cell? ⟨b, o, none⟩ else hidC w' b o) (by kernel_rfl) (cif (Below.refl _ _).drew) ?_
                  intro hG0
                  refine wpAnyG_any (i := 0) (v := ?_) rfl hG0 (by kernel_rfl) (by kernel_rfl) (by kernel_rfl) rfl (fun _ _ _ h => h) (Or.inl ⟨by rfl, ?_⟩) ?_; rotate_left; (intro wS hSw; (try dsimp only at hSw); first | (go_simp; done) | (go_simp; with_reducible rfl) | (simp [go_sem, ↓IntWalk.iteOmega, *]; done) | (simp [go_sem, ↓IntWalk.iteOmega, *]; with_reducible rfl)); (intro hG1); clear hG0; (try simp only [Act.put, List.setIfInBounds_toArray, List.set_cons_zero, List.set_cons_succ])
                  refine wpAnyG_take (i := 1) (v := ?_) rfl hG1 (by kernel_rfl) (by kernel_rfl) (by kernel_rfl) rfl (by kernel_rfl) (fun _ _ _ h => h) (Or.inl ⟨by rfl, ?_⟩) ?_; rotate_left; (intro wS hSw; (try dsimp only at hSw); first | (go_simp; done) | (go_simp; with_reducible rfl) | (simp [go_sem, ↓IntWalk.iteOmega, *]; done) | (simp [go_sem, ↓IntWalk.iteOmega, *]; with_reducible rfl)); (intro hG2); clear hG1; (try simp only [Act.put, List.setIfInBounds_toArray, List.set_cons_zero, List.set_cons_succ])
                  refine wpAnyG_any (i := 2) (v := ?_) rfl hG2 (by kernel_rfl) (by kernel_rfl) (by kernel_rfl) rfl (fun _ _ _ h => h) (Or.inl ⟨by rfl, ?_⟩) ?_; rotate_left; (intro wS hSw; (try dsimp only at hSw); first | (go_simp; done) | (go_simp; with_reducible rfl) | (simp [go_sem, ↓IntWalk.iteOmega, *]; done) | (simp [go_sem, ↓IntWalk.iteOmega, *]; with_reducible rfl)); (intro hG3); clear hG2; (try simp only [Act.put, List.setIfInBounds_toArray, List.set_cons_zero, List.set_cons_succ])
                  refine wpAnyG_take (i := 3) (v := ?_) rfl hG3 (by kernel_rfl) (by kernel_rfl) (by kernel_rfl) rfl (by kernel_rfl) (fun _ _ _ h => h) (Or.inl ⟨by rfl, ?_⟩) ?_; rotate_left; (intro wS hSw; (try dsimp only at hSw); first | (go_simp; done) | (go_simp; with_reducible rfl) | (simp [go_sem, ↓IntWalk.iteOmega, *]; done) | (simp [go_sem, ↓IntWalk.iteOmega, *]; with_reducible rfl)); (intro hG4); clear hG3; (try simp only [Act.put, List.setIfInBounds_toArray, List.set_cons_zero, List.set_cons_succ])
                  refine wpAnyG_any (i := 4) (v := ?_) rfl hG4 (by kernel_rfl) (by kernel_rfl) (by kernel_rfl) rfl (fun _ _ _ h => h) (Or.inl ⟨by rfl, ?_⟩) ?_; rotate_left; (intro wS hSw; (try dsimp only at hSw); first | (go_simp; done) | (go_simp; with_reducible rfl) | (simp [go_sem, ↓IntWalk.iteOmega, *]; done) | (simp [go_sem, ↓IntWalk.iteOmega, *]; with_reducible rfl)); (intro hG5); clear hG4; (try simp only [Act.put, List.setIfInBounds_toArray, List.set_cons_zero, List.set_cons_succ])
                  refine wpAnyG_any (i := 6) (v := ?_) rfl hG5 (by kernel_rfl) (by kernel_rfl) (by kernel_rfl) rfl (fun _ _ _ h => h) (Or.inl ⟨by rfl, ?_⟩) ?_; rotate_left; (intro wS hSw; (try dsimp only at hSw); first | (go_simp; done) | (go_simp; with_reducible rfl) | (simp [go_sem, ↓IntWalk.iteOmega, *]; done) | (simp [go_sem, ↓IntWalk.iteOmega, *]; with_reducible rfl)); (intro hG6); clear hG5; (try simp only [Act.put, List.setIfInBounds_toArray, List.set_cons_zero, List.set_cons_succ])
                  refine wpAnyG_any (i := 7) (v := ?_) rfl hG6 (by kernel_rfl) (by kernel_rfl) (by kernel_rfl) rfl (fun _ _ _ h => h) (Or.inl ⟨by rfl, ?_⟩) ?_; rotate_left; (intro wS hSw; (try dsimp only at hSw); first | (go_simp; done) | (go_simp; with_reducible rfl) | (simp [go_sem, ↓IntWalk.iteOmega, *]; done) | (simp [go_sem, ↓IntWalk.iteOmega, *]; with_reducible rfl)); (intro hG7); clear hG6; (try simp only [Act.put, List.setIfInBounds_toArray, List.set_cons_zero, List.set_cons_succ])
                  refine wpAnyG_take (i := 8) (v := ?_) rfl hG7 (by kernel_rfl) (by kernel_rfl) (by kernel_rfl) rfl (by kernel_rfl) (fun _ _ _ h => h) (Or.inl ⟨by rfl, ?_⟩) ?_; rotate_left; (intro wS hSw; (try dsimp only at hSw); first | (go_simp; done) | (go_simp; with_reducible rfl) | (simp [go_sem, ↓IntWalk.iteOmega, *]; done) | (simp [go_sem, ↓IntWalk.iteOmega, *]; with_reducible rfl)); (intro hG8); clear hG7; (try simp only [Act.put, List.setIfInBounds_toArray, List.set_cons_zero, List.set_cons_succ])
                  refine wpAnyG_any (i := 9) (v := ?_) rfl hG8 (by kernel_rfl) (by kernel_rfl) (by kernel_rfl) rfl (fun _ _ _ h => h) (Or.inl ⟨by rfl, ?_⟩) ?_; rotate_left; (intro wS hSw; (try dsimp only at hSw); first | (go_simp; done) | (go_simp; with_reducible rfl) | (simp [go_sem, ↓IntWalk.iteOmega, *]; done) | (simp [go_sem, ↓IntWalk.iteOmega, *]; with_reducible rfl)); (intro hG9); clear hG8; (try simp only [Act.put, List.setIfInBounds_toArray, List.set_cons_zero, List.set_cons_succ])
                  refine wpAnyG_take (i := 10) (v := ?_) rfl hG9 (by kernel_rfl) (by kernel_rfl) (by kernel_rfl) rfl (by kernel_rfl) (fun _ _ _ h => h) (Or.inl ⟨by rfl, ?_⟩) ?_; rotate_left; (intro wS hSw; (try dsimp only at hSw); first | (go_simp; done) | (go_simp; with_reducible rfl) | (simp [go_sem, ↓IntWalk.iteOmega, *]; done) | (simp [go_sem, ↓IntWalk.iteOmega, *]; with_reducible rfl)); (intro hG10); clear hG9; (try simp only [Act.put, List.setIfInBounds_toArray, List.set_cons_zero, List.set_cons_succ])
                  refine wpAnyG_any (i := 11) (v := ?_) rfl hG10 (by kernel_rfl) (by kernel_rfl) (by kernel_rfl) rfl (fun _ _ _ h => h) (Or.inl ⟨by rfl, ?_⟩) ?_; rotate_left; (intro wS hSw; (try dsimp only at hSw); first | (go_simp; done) | (go_simp; with_reducible rfl) | (simp [go_sem, ↓IntWalk.iteOmega, *]; done) | (simp [go_sem, ↓IntWalk.iteOmega, *]; with_reducible rfl)); (intro hG11); clear hG10; (try simp only [Act.put, List.setIfInBounds_toArray, List.set_cons_zero, List.set_cons_succ])
                  refine wpAnyG_take (i := 12) (v := ?_) rfl hG11 (by kernel_rfl) (by kernel_rfl) (by kernel_rfl) rfl (by kernel_rfl) (fun _ _ _ h => h) (Or.inl ⟨by rfl, ?_⟩) ?_; rotate_left; (intro wS hSw; (try dsimp only at hSw); first | (go_simp; done) | (go_simp; with_reducible rfl) | (simp [go_sem, ↓IntWalk.iteOmega, *]; done) | (simp [go_sem, ↓IntWalk.iteOmega, *]; with_reducible rfl)); (intro hG12); clear hG11; (try simp only [Act.put, List.setIfInBounds_toArray, List.set_cons_zero, List.set_cons_succ])
                  refine wpAnyG_ready (rs := [5]) (by kernel_rfl) (by simp) (AllG.cons rfl hG12 (fun K hK => ?_) AllG.nil)
                  (go_simp; go_at_call 58; refine (K5.out _ (by repeat (first | exact Below.refl _ _ | refine below_dN ?_ _ | refine Below.drew ?_ | refine Below.alloc ?_ (by first | omega | (simp; done) | (simp; omega)) _ | refine Below.setCell ?_ (by first | omega | (simp; done) | (simp; omega)) _ | refine below_step (by assumption) (by first | omega | (simp; done) | (simp; omega)) ?_))).mono ?_; rintro e w6 ⟨⟨R, rfl, hR⟩, hb6⟩; obtain ⟨AR, cR, rfl⟩ := own_shape hR; obtain ⟨hc6, hf6, hz6, hlt6, hle6⟩ := cellsIf hb6 (by (try simp); exact rfl))
                  refine hK.out _ _ (Or.inr (cif (by repeat (first | exact Below.refl _ _ | refine below_dN ?_ _ | refine Below.drew ?_ | refine Below.alloc ?_ (by first | omega | (simp; done) | (simp; omega)) _ | refine Below.setCell ?_ (by first | omega | (simp; done) | (simp; omega)) _ | refine below_step (by assumption) (by first | omega | (simp; done) | (simp; omega)) ?_)))) (fun hG13 => ?_); clear hK hG12; (try simp only [Act.put, List.setIfInBounds_toArray, List.set_cons_zero, List.set_cons_succ])
                  refine wpAnyG_any (i := 13) (v := ?_) rfl hG13 (by kernel_rfl) (by kernel_rfl) (by kernel_rfl) rfl (fun _ _ _ h => h) (Or.inl ⟨by rfl, ?_⟩) ?_; rotate_left; (intro wS hSw; (try dsimp only at hSw); first | (go_simp; done) | (go_simp; with_reducible rfl) | (simp [go_sem, ↓IntWalk.iteOmega, *]; done) | (simp [go_sem, ↓IntWalk.iteOmega, *]; with_reducible rfl)); (intro hG14); clear hG13; (try simp only [Act.put, List.setIfInBounds_toArray, List.set_cons_zero, List.set_cons_succ])
                  refine wpAnyG_ready (rs := [14]) (by kernel_rfl) (by simp) (AllG.cons rfl hG14 (fun K hK => ?_) AllG.nil)
                  (go_simp)
                  refine hK.out _ _ (Or.inr (cif (by repeat (first | exact Below.refl _ _ | refine below_dN ?_ _ | refine Below.drew ?_ | refine Below.alloc ?_ (by first | omega | (simp; done) | (simp; omega)) _ | refine Below.setCell ?_ (by first | omega | (simp; done) | (simp; omega)) _ | refine below_step (by assumption) (by first | omega | (simp; done) | (simp; omega)) ?_)))) (fun hG15 => ?_); clear hK hG14; (try simp only [Act.put, List.setIfInBounds_toArray, List.set_cons_zero, List.set_cons_succ])
                  refine wpAnyG_ready (rs := [15]) (by kernel_rfl) (by simp) (AllG.cons rfl hG15 (fun K hK => ?_) AllG.nil)
                  ((refine step_append_src (by rfl) _ _ 72 (by rfl) wc.heap.size 84 infE (.agg #[.slice none 0 0, .int .i64 0, .int .i64 0]) 3 40 undEf hiE ez0 ez1 ez2 rfl (by decide) _ (resEN tl (opr t.ops k).effs j).length es (by rfl) (own_below hE (by repeat (first | exact Below.refl _ _ | refine below_dN ?_ _ | refine Below.drew ?_ | refine Below.alloc ?_ (by first | omega | (simp; done) | (simp; omega)) _ | refine Below.setCell ?_ (by first | omega | (simp; done) | (simp; omega)) _ | refine below_step (by assumption) (by first | omega | (simp; done) | (simp; omega)) ?_))) (some ⟨_, 0, none⟩) 1 1 [.slice AR lr.length cR, .int .i64 (nth tl ev), .int .i64 (eff (opr t.ops k).effs j).val] (by rfl) (src_of (heap_alloc_new _ _) rfl (three_one rfl rfl rfl)) (by unfold maxLen; omega) (by omega) (by first | omega | (simp; done) | (simp; omega)) ?_; intro vE wE hoE hgE haE; obtain ⟨AE', cE', rfl⟩ := own_shape hoE; have hbE : Below wc.heap.size wu wE := (show Below wc.heap.size wu _ by repeat (first | exact Below.refl _ _ | refine below_dN ?_ _ | refine Below.drew ?_ | refine Below.alloc ?_ (by first | omega | (simp; done) | (simp; omega)) _ | refine Below.setCell ?_ (by first | omega | (simp; done) | (simp; omega)) _ | refine below_step (by assumption) (by first | omega | (simp; done) | (simp; omega)) ?_)).grown hgE (by first | omega | (simp; done) | (simp; omega)) (fun g hg => (hE.lt g hg).1); have hcE := cif hbE; have hfE := fif hbE))
                  refine hK.out _ _ (Or.inl rfl) (fun hG16 => ?_); clear hK hG15; (try simp only [Act.put, List.setIfInBounds_toArray, List.set_cons_zero, List.set_cons_succ])
                  refine wpAnyG_any (i := 16) (v := ?_) rfl hG16 (by kernel_rfl) (by kernel_rfl) (by kernel_rfl) rfl (fun _ _ _ h => h) (Or.inl ⟨by rfl, ?_⟩) ?_; rotate_left; (intro wS hSw; (try dsimp only at hSw); first | (go_simp; done) | (go_simp; with_reducible rfl) | (simp [go_sem, ↓IntWalk.iteOmega, *]; done) | (simp [go_sem, ↓IntWalk.iteOmega, *]; with_reducible rfl)); (intro hG17); clear hG16; (try simp only [Act.put, List.setIfInBounds_toArray, List.set_cons_zero, List.set_cons_succ])
                  refine wpAnyG_ready (rs := [17]) (by kernel_rfl) (by simp) (AllG.cons rfl hG17 (fun K hK => ?_) AllG.nil)
                  ((simp [go_sem, ↓IntWalk.iteOmega, *]))
                  refine hK.out _ _ (Or.inl rfl) (fun hG18 => ?_); clear hK hG17; (try simp only [Act.put, List.setIfInBounds_toArray, List.set_cons_zero, List.set_cons_succ])
                  refine wpAnyG_done (by kernel_rfl) ?_ _; clear hG18
                  go_wp2
                  go_roundw
                  case rel => 
                    have m1 : Moves w6 (wE.setCell ⟨xb, 3, none⟩ (.slice AE' ((resEN tl (opr t.ops k).effs j).length + 1) cE')) (fun b => b < wc.heap.size ∨ (Value.slice AE (resEN tl (opr t.ops k).effs j).length cE).ownBlock = some b) (fun b => b < wc.heap.size ∨ (Value.slice AE' ((resEN tl (opr t.ops k).effs j).length + 1) cE').ownBlock = some b) := ((Moves.up (by repeat (first | exact Below.refl _ _ | refine below_dN ?_ _ | refine Below.drew ?_ | refine Below.alloc ?_ (by first | omega | (simp; done) | (simp; omega)) _ | refine Below.setCell ?_ (by first | omega | (simp; done) | (simp; omega)) _ | refine below_step (by assumption) (by first | omega | (simp; done) | (simp; omega)) ?_))).trans (Moves.grownTo hgE haE)).trans (Moves.set _ (.inl hxbl))
                    have m0 := (Moves.up (w := wu) (w' := w6) (bad := fun b => b < wc.heap.size ∨ (Value.slice AE (resEN tl (opr t.ops k).effs j).length cE).ownBlock = some b) (by repeat (first | exact Below.refl _ _ | refine below_dN ?_ _ | refine Below.drew ?_ | refine Below.alloc ?_ (by first | omega | (simp; done) | (simp; omega)) _ | refine Below.setCell ?_ (by first | omega | (simp; done) | (simp; omega)) _ | refine below_step (by assumption) (by first | omega | (simp; done) | (simp; omega)) ?_))).trans m1
                    obtain ⟨AR', cR', eR, _, hRf⟩ := own_fac (bad := fun b => b < wc.heap.size ∨ (Value.slice AE (resEN tl (opr t.ops k).effs j).length cE).ownBlock = some b) hR rfl (by have := Llr.out; omega) (fun g hg hg2 h => by
                      have h1 : wu.heap.size ≤ g := by (try simp at hg); omega
                      rcases h with h | h
                      · omega
                      · have := hElt g h; omega)
                    cases eR
                    exact ⟨j + 1, _, _, by omega, by go_num, by rw [HP.out, List.length_append]; exact own_set hoE hxbl, by rw [HP.out]; exact EfIs.push (hEf.move m0) (e := ⟨lr, nth tl ev, (eff (opr t.ops k).effs j).val⟩) (hRf.move m1), (hxb'.low hbE hxbl).set3 _, ((hkx.trans (Kb.of_below (show Below wu.heap.size wu _ by repeat (first | exact Below.refl _ _ | refine below_dN ?_ _ | refine Below.drew ?_ | refine Below.alloc ?_ (by first | omega | (simp; done) | (simp; omega)) _ | refine Below.setCell ?_ (by first | omega | (simp; done) | (simp; omega)) _ | refine below_step (by assumption) (by first | omega | (simp; done) | (simp; omega)) ?_)))).grown hgE (fun g hg => .inr (hE.lt g hg).1)).set (.inl rfl) _⟩
                  case measure => simp [intOf]; omega
                · have HP := Lib.hid (resEN_no (tl := tl) (es := (opr t.ops k).effs) (k := j) (by rw [Hvn.out]; exact hy))
                  go_wp2
                  go_roundw
                  case rel => exact ⟨j + 1, _, es, by omega, by go_num, by rw [HP.out]; exact hE.alloc _, by rw [HP.out]; exact hEf.move (Moves.up (by repeat (first | exact Below.refl _ _ | refine below_dN ?_ _ | refine Below.drew ?_ | refine Below.alloc ?_ (by first | omega | (simp; done) | (simp; omega)) _ | refine Below.setCell ?_ (by first | omega | (simp; done) | (simp; omega)) _ | refine below_step (by assumption) (by first | omega | (simp; done) | (simp; omega)) ?_))), hxb'.alloc _, hkx.alloc _⟩
                  case measure => simp [intOf]; omega
              · obtain rfl : j = (opr t.ops k).effs.length := by omega
                have hbow : w2.heap.size < wl.heap.size := by omega
                have hElen := resEN_len tl (opr t.ops k).effs (opr t.ops k).effs.length
                have hOlen := resON_len tl t.ops k
                have hno := HR.out.no
                obtain ⟨AF, cF, eF, zF, hEfs⟩ := EfIs.efs (bad := fun b => b < wt.heap.size) (hEf.move (Moves.mono fun b hb h => .inl (by omega))) hE (by omega) (fun g hg hg2 h => by omega)
                cases eF
                have hPu := own_kb hP hkx (fun g hg e => hPne (by rw [hg, e]))
                obtain ⟨AQ, cQ, eQ, zQ, hPf⟩ := own_fac (bad := fun b => b < wt.heap.size) hPu rfl (by have := Llp.out; omega) (fun g hg hg2 h => by omega)
                cases eQ
                have hOu := own_below HO.out hbtu
                have HN := Lib.hid (show resON tl t.ops (k + 1) = resON tl t.ops k ++ [⟨(opr t.ops k).name, (opr t.ops k).cost, lp, resEN tl (opr t.ops k).effs (opr t.ops k).effs.length⟩] by rw [resON_succ]; unfold resO; rw [Hlp.out])
                have hOL : (resON tl t.ops k).length ≤ 10000000 := by omega
                have hboxu := hbox.low hbtu (by omega)
                obtain ⟨b0, b1, b2, b3, b4, b5⟩ := id hboxu
                obtain ⟨t0, t1, t2, t3, t4, t5⟩ := id hbox
                have HEfs := Lib.hid hEfs
                have HPf := Lib.hid hPf
                clear hElen hOlen hEfs hPf hPu hE hEf
                go_wp2_with (at_builtin; refine wpList_push rfl _ _ 24 rfl wl.heap.size 74 infO (.agg #[.string ByteArray.empty, .int .i64 0, .slice none 0 0, .slice none 0 0]) 4 72 undOp hiO oz0 oz1 oz2 rfl (by decide) (by decide) (.slice AO (resON tl t.ops k).length cO) (resON tl t.ops k).length xs rfl (hOu.alloc _) wu.heap.size 74 [.string (opr t.ops k).name, .int .i64 (opr t.ops k).cost, .slice AP lp.length cP, .slice AE (resEN tl (opr t.ops k).effs (opr t.ops k).effs.length).length cE] rfl rfl (heap_alloc_new _ _) (four_one rfl rfl rfl rfl) hOL (by first | omega | (simp; omega)) (B := wl.heap.size) (W := wt) ((hbtu.mono hkz).alloc (by omega) _) (Nat.le_refl _) ?_; intro v' w8 hown' hgrow hat hbw8; obtain ⟨AO', cO', rfl⟩ := own_shape hown'; have hcO := cif hbw8; have hfO := fif hbw8; have Hown := Lib.hid hown'; have Hgrow := Lib.hid hgrow; have Hat := Lib.hid hat; clear hown' hgrow hat)
                clear hcO hfO
                have hgrow := Hgrow.out
                have hat := Hat.out
                go_roundw
                case rel =>
                  have m2 := ((Moves.up (w := wu) (bad := fun b => b < wl.heap.size ∨ (Value.slice AO (resON tl t.ops k).length cO).ownBlock = some b) (by repeat (first | exact Below.refl _ _ | refine below_dN ?_ _ | refine Below.drew ?_ | refine Below.alloc ?_ (by first | omega | (simp; done) | (simp; omega)) _ | refine Below.setCell ?_ (by first | omega | (simp; done) | (simp; omega)) _ | refine below_step (by assumption) (by first | omega | (simp; done) | (simp; omega)) ?_))).trans (Moves.grownTo hgrow hat)).trans (Moves.set (p := ⟨w2.heap.size, 3, none⟩) (.slice AO' ((resON tl t.ops k).length + 1) cO') (.inl hbow))
                  have m0 := (Moves.up (w := wt) (bad := fun b => b < wl.heap.size ∨ (Value.slice AO (resON tl t.ops k).length cO).ownBlock = some b) hbtu).trans m2
                  have mU := (Moves.mono (w := wu) (bad := fun b => b < wt.heap.size) (bad' := fun b => b < wl.heap.size ∨ (Value.slice AO (resON tl t.ops k).length cO).ownBlock = some b) (fun b hb h => by
                    rcases h with h | h
                    · omega
                    · exact (HO.out.lt b h).2)).trans m2
                  exact ⟨k + 1, _, _, by omega, by go_num, by rw [HN.out, List.length_append]; exact own_set Hown.out hbow, by rw [HN.out]; exact OpIs.push (HOp.out.move m0) (o := ⟨(opr t.ops k).name, (opr t.ops k).cost, lp, resEN tl (opr t.ops k).effs (opr t.ops k).effs.length⟩) q0 (HPf.out.move mU) (HEfs.out.move mU), (hbox.low hbw8 hbow).set3 _, (((hkb.trans (Kb.of_below hbtu)).alloc _).grown hgrow (fun g hg => .inr (HO.out.lt g hg).1)).set (.inl rfl) _⟩
                case measure => simp [intOf]; omega
        · obtain rfl : k = t.ops.length := by omega
          have hres := hres2.low hbw2t (by omega)
          have hbow : w2.heap.size < wl.heap.size := by omega
          have hres1 : w.heap.size + 1 < wt.heap.size := by omega
          obtain ⟨r0, r1, r2, r3, r4, r5⟩ := id hres
          obtain ⟨t0, t1, t2, t3, t4, t5⟩ := id hbox
          have HO := Lib.hid hO
          have HOp := Lib.hid hOp
          clear hO hOp hbx
          go_wp2
          have hfin := (((hres.set0 (.slice AV lv.length cV)).set1 (.slice AI li.length cI)).set2 (.slice AG lg.length cG)).set3 (.slice AO (resON tl t.ops t.ops.length).length cO)
          obtain ⟨n0, n1, n2, n3, n4, n5⟩ := hfin
          clear r0 r1 r2 r3 r4 r5 t0 t1 t2 t3 t4 t5
          have hno := HR.out.no
          have hOlen := resON_len tl t.ops t.ops.length
          have hVf := own_kb HVl.out hkb (fun g hg e => by have := (HVl.out.lt g hg).1; omega)
          have hIf := own_kb HIl.out hkb (fun g hg e => by have := (HIl.out.lt g hg).1; omega)
          have hGf := own_kb HGl.out hkb (fun g hg e => by have := (HGl.out.lt g hg).1; omega)
          obtain ⟨A1, c1, e1, _, hV⟩ := own_got (own_set (p := ⟨w.heap.size + 1, 3, none⟩) (u := .slice AO (resON tl t.ops t.ops.length).length cO) (own_set (p := ⟨w.heap.size + 1, 2, none⟩) (u := .slice AG lg.length cG) (own_set (p := ⟨w.heap.size + 1, 1, none⟩) (u := .slice AI li.length cI) (own_set (p := ⟨w.heap.size + 1, 0, none⟩) (u := .slice AV lv.length cV) hVf (by show w.heap.size + 1 < _; omega)) (by show w.heap.size + 1 < _; omega)) (by show w.heap.size + 1 < _; omega)) (by show w.heap.size + 1 < _; omega)) (by have := Llv.out; omega)
          cases e1
          obtain ⟨A2, c2, e2, zI, hI⟩ := own_got (own_set (p := ⟨w.heap.size + 1, 3, none⟩) (u := .slice AO (resON tl t.ops t.ops.length).length cO) (own_set (p := ⟨w.heap.size + 1, 2, none⟩) (u := .slice AG lg.length cG) (own_set (p := ⟨w.heap.size + 1, 1, none⟩) (u := .slice AI li.length cI) (own_set (p := ⟨w.heap.size + 1, 0, none⟩) (u := .slice AV lv.length cV) hIf (by show w.heap.size + 1 < _; omega)) (by show w.heap.size + 1 < _; omega)) (by show w.heap.size + 1 < _; omega)) (by show w.heap.size + 1 < _; omega)) (by have := Lli.out; omega)
          cases e2
          obtain ⟨A3, c3, e3, zL', hL⟩ := own_got (own_set (p := ⟨w.heap.size + 1, 3, none⟩) (u := .slice AO (resON tl t.ops t.ops.length).length cO) (own_set (p := ⟨w.heap.size + 1, 2, none⟩) (u := .slice AG lg.length cG) (own_set (p := ⟨w.heap.size + 1, 1, none⟩) (u := .slice AI li.length cI) (own_set (p := ⟨w.heap.size + 1, 0, none⟩) (u := .slice AV lv.length cV) (own_kb HLl.out hkb (fun g hg e => by have := (HLl.out.lt g hg).1; omega)) (by show w.heap.size + 1 < _; omega)) (by show w.heap.size + 1 < _; omega)) (by show w.heap.size + 1 < _; omega)) (by show w.heap.size + 1 < _; omega)) (by have := Ltl.out; omega)
          cases e3
          obtain ⟨A4, c4, e4, zG, hG⟩ := own_fac (bad := fun _ => False) (own_set (p := ⟨w.heap.size + 1, 3, none⟩) (u := .slice AO (resON tl t.ops t.ops.length).length cO) (own_set (p := ⟨w.heap.size + 1, 2, none⟩) (u := .slice AG lg.length cG) (own_set (p := ⟨w.heap.size + 1, 1, none⟩) (u := .slice AI li.length cI) (own_set (p := ⟨w.heap.size + 1, 0, none⟩) (u := .slice AV lv.length cV) hGf (by show w.heap.size + 1 < _; omega)) (by show w.heap.size + 1 < _; omega)) (by show w.heap.size + 1 < _; omega)) (by show w.heap.size + 1 < _; omega)) rfl (by have := Llg.out; omega) (fun _ _ _ h => h)
          cases e4
          have mF := (((Moves.set (w := wt) (bad := fun b => b < wl.heap.size ∨ (Value.slice AO (resON tl t.ops t.ops.length).length cO).ownBlock = some b) (p := ⟨w.heap.size + 1, 0, none⟩) (.slice AV lv.length cV) (.inl (by show w.heap.size + 1 < _; omega))).trans (Moves.set (p := ⟨w.heap.size + 1, 1, none⟩) (.slice AI li.length cI) (.inl (by show w.heap.size + 1 < _; omega)))).trans (Moves.set (p := ⟨w.heap.size + 1, 2, none⟩) (.slice AG lg.length cG) (.inl (by show w.heap.size + 1 < _; omega)))).trans (Moves.set (p := ⟨w.heap.size + 1, 3, none⟩) (.slice AO (resON tl t.ops t.ops.length).length cO) (.inl (by show w.heap.size + 1 < _; omega)))
          obtain ⟨A5, c5, e5, zO, hOf⟩ := OpIs.ops (HOp.out.move mF) (own_set (p := ⟨w.heap.size + 1, 3, none⟩) (u := .slice AO (resON tl t.ops t.ops.length).length cO) (own_set (p := ⟨w.heap.size + 1, 2, none⟩) (u := .slice AG lg.length cG) (own_set (p := ⟨w.heap.size + 1, 1, none⟩) (u := .slice AI li.length cI) (own_set (p := ⟨w.heap.size + 1, 0, none⟩) (u := .slice AV lv.length cV) HO.out (by show w.heap.size + 1 < _; omega)) (by show w.heap.size + 1 < _; omega)) (by show w.heap.size + 1 < _; omega)) (by show w.heap.size + 1 < _; omega)) (by omega)
          cases e5
          obtain ⟨wf, hwf⟩ : ∃ wf : World, (((wt.setCell ⟨w.heap.size + 1, 0, none⟩ (.slice AV lv.length cV)).setCell ⟨w.heap.size + 1, 1, none⟩ (.slice AI li.length cI)).setCell ⟨w.heap.size + 1, 2, none⟩ (.slice AG lg.length cG)).setCell ⟨w.heap.size + 1, 3, none⟩ (.slice AO (resON tl t.ops t.ops.length).length cO) = wf := ⟨_, rfl⟩
          have hbf : Below w.heap.size w wf := by rw [← hwf]; repeat (first | exact Below.refl _ _ | refine below_dN ?_ _ | refine Below.drew ?_ | refine Below.alloc ?_ (by first | omega | (simp; done) | (simp; omega)) _ | refine Below.setCell ?_ (by first | omega | (simp; done) | (simp; omega)) _ | refine below_step (by assumption) (by first | omega | (simp; done) | (simp; omega)) ?_)
          rw [hwf] at hV hI hG hL hOf n0 n1 n2 n3 n4 ⊢
          clear hwf hOlen n5 mF
          refine bodyPost_ret (v := .tuple #[.agg #[.slice AV lv.length cV, .slice AI li.length cI, .slice AG lg.length cG, .slice AO (resON tl t.ops t.ops.length).length cO], .slice AL tl.length cL, .nilIface]) (by simp [results, Try.results27, go_sem, ↓IntWalk.iteOmega, *]) rfl ⟨⟨⟨AV, AI, AG, AO, cV, cI, cG, cO⟩, AL, cL, by rw [Hr.out, Ht.out, Hlg.out]; rfl, by rw [Hr.out, Hlg.out]; exact ⟨hV, hI, hG.at_, hOf⟩, by rw [Ht.out]; exact hL, zL, zI⟩, hbf⟩

end Go.Proofs.Ytenmeiplglbafaa
