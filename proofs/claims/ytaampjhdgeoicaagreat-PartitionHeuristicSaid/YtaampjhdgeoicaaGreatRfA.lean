/- The reference's over and minus. -/
import Derived.Test.YtaampjhdgeoicaaGreatMfA
import Derived.Test.YtaampjhdgeoicaaGreatSxW
namespace Go.Proofs.YtaampjhdgeoicaaGreat
set_option linter.unusedSimpArgs false
set_option linter.unusedVariables false
open Go Go.RowKit
set_option linter.unusedVariables false

/-- The walk from a set of operations that are done. -/
def NodeG (P : Program) (md : Region.Mode) (ops : Array Oper) (Q : Exit → Act → World → Prop) (st : Nat) (S : World → Prop) (fuel : Nat) (listed : Array Bool) (a : Act) (w : World) : Prop := Cl md ops listed ∧ Gd st S listed w → wpAnyG P md ops Q st S fuel listed a w
section
variable {P : Program} {md : Region.Mode} {ops : Array Oper} {Q : Exit → Act → World → Prop} {st : Nat} {S : World → Prop} {fuel : Nat} {l l' : Array Bool} {a : Act} {w : World}
theorem node_here (h : NodeG P md ops Q st S fuel l a w) (hG : Cl md ops l ∧ Gd st S l w) : wpAnyG P md ops Q st S fuel l a w := h hG
theorem node_move (e : l = l') (h : NodeG P md ops Q st S fuel l' a w) (hG : Cl md ops l ∧ Gd st S l w) : wpAnyG P md ops Q st S fuel l a w := by subst e; exact h hG
end
theorem merge1 {α0 : Type} {T : Prop} {F G : α0 → Prop} (walk : (∀ (x0 : α0), F x0 → G x0) → T) (rest : ∀ (x0 : α0), F x0 → G x0) : T := walk rest
theorem merge2 {α0 α1 : Type} {T : Prop} {F G : α0 → α1 → Prop} (walk : (∀ (x0 : α0) (x1 : α1), F x0 x1 → G x0 x1) → T) (rest : ∀ (x0 : α0) (x1 : α1), F x0 x1 → G x0 x1) : T := walk rest
/-- What is under way where a call's result goes into a box of its own. -/
structure RSt (W w : World) (bx : Option Nat) : Prop where
 bel : Below W.heap.size W w
 box : ∀ H, bx = some H → Own2 w H 0 0 ∧ W.heap.size ≤ H
section
variable {W w w' : World} {bx : Option Nat} {K : Act → World → Prop} {a : Act}
theorem RSt.start (W : World) : RSt W W.drew none := ⟨(Below.refl _ _).drew, fun H h => nomatch h⟩
theorem RSt.up (h : RSt W w bx) (hb : Below w.heap.size w w') : RSt W w' bx := ⟨h.bel.trans (hb.mono h.bel.size), fun H e => ⟨(h.box H e).1.up hb, (h.box H e).2⟩⟩
theorem RSt.k9 (h : RSt W w bx) (hk : ∀ wN, RSt W wN (some w.heap.size) → K a wN) : K a (w.alloc (.cells #[.int .i64 0, .int .i64 0] 45)) := by
 have hu := h.up ((Below.refl w.heap.size w).alloc (Nat.le_refl _) (.cells #[.int .i64 0, .int .i64 0] 45))
 exact hk _ ⟨hu.bel, fun H e => by cases e; exact ⟨Own2.new, h.bel.size⟩⟩
end
theorem undRw : Tryz.prog.underlying 150 = some (.slice 45) := by kernel_rfl
theorem make_rw (N : Nat) (hN : N ≤ 100) (w : World) : (Instr.makeSlice 150 (.int .i64 (N : Int)) (.int .i64 (N : Int))).run Tryz.prog w = .ok (.slice (some ⟨w.heap.size, 0, none⟩) N N) (w.alloc (.cells (zrow N) 45)) := by
 obtain ⟨i, hi, hz, hs, hb⟩ := info_parts infoC
 have h := run_make (P := Tryz.prog) w 150 45 i _ undRw hi hz .i64 .i64 (N : Int) (N : Int) (by omega) (Int.le_refl _) (by rw [hb]; omega) (by omega)
 rw [Int.toNat_natCast, hs] at h
 exact h
def OvRet (f : Nat → Rat) (φ : Rat) (N : Nat) (e : Ending) (w' : World) : Prop := ((∃ j, j < N ∧ ¬ Rep (f j / φ)) ∧ e = .returned (.tuple #[.slice none 0 0, .bool false])) ∨ ((∀ j, j < N → Rep (f j / φ)) ∧ ∃ b, e = .returned (.tuple #[.slice (some ⟨b, 0, none⟩) N N, .bool true]) ∧ FrRow w' b N (fun j => f j / φ))

set_option maxRecDepth 100000 in
set_option maxHeartbeats 8000000 in
theorem over_any (f : Nat → Rat) (φ : Rat) (N : Nat) (A : Option Addr) (ca : Nat) (w : World) (hf : FactsAt w w.heap.size A (frq f N)) (hr : ∀ j, j < N → Rep (f j)) (hφ : Rep φ) (h0 : φ ≠ 0) (hN : N ≤ 100) :
  Calls Tryz.prog 107 #[.slice A N ca, .agg #[.int .i64 φ.num, .int .i64 φ.den]] w fun e w' => OvRet f φ N e w' ∧ Below w.heap.size w w' := by
 have HF := Lib.hid hf
 have Hmk := make_rw N hN
 have KD := Lib.hid (fun j (hj : j < N) wx => (by have := rdiv_any (f j).num (f j).den φ.num φ.den wx; rw [divF_rep (hr j hj) hφ h0] at this; exact this : Calls Tryz.prog 118 #[.agg #[.int .i64 (f j).num, .int .i64 (f j).den], .agg #[.int .i64 φ.num, .int .i64 φ.den]] wx (RetFC (toF (f j / φ)) wx)))
 obtain ⟨φn, hφn⟩ : ∃ φn, φn = φ.num := ⟨_, rfl⟩
 obtain ⟨φd, hφd⟩ : ∃ φd, φd = (φ.den : Int) := ⟨_, rfl⟩
 rw [← hφn, ← hφd] at KD ⊢
 clear hf hr hφ h0 hφn hφd
 go_enter Tryz.func107, Tryz.ntmps107
 go_wp2
 clear Hmk
 have hV0 : Own2 (w.alloc (.cells #[.int .i64 φn, .int .i64 φd] 45)) w.heap.size φn φd := Own2.new
 have hb0 : Below w.heap.size w (w.alloc (.cells #[.int .i64 φn, .int .i64 φd] 45)) := (Below.refl _ _).alloc (Nat.le_refl _) _
 have hR0 := zrow_row2 w (.cells #[.int .i64 φn, .int .i64 φd] 45) N
 have hb1 : Below (w.alloc (.cells #[.int .i64 φn, .int .i64 φd] 45)).heap.size (w.alloc (.cells #[.int .i64 φn, .int .i64 φd] 45)) ((w.alloc (.cells #[.int .i64 φn, .int .i64 φd] 45)).alloc (.cells (zrow N) 45)) := (Below.refl _ _).alloc (Nat.le_refl _) _
 obtain ⟨w1, hw1⟩ : ∃ w1, w1 = w.alloc (.cells #[.int .i64 φn, .int .i64 φd] 45) := ⟨_, rfl⟩
 have hg : w1.heap.size = w.heap.size + 1 := by rw [hw1]; simp
 rw [← hw1] at hV0 hb0 hR0 hb1 ⊢
 rw [← hg] at hR0 ⊢
 obtain ⟨FB, hFB⟩ : ∃ FB, FB = w.heap.size := ⟨_, rfl⟩
 obtain ⟨g, hgg⟩ : ∃ g, g = w1.heap.size := ⟨_, rfl⟩
 rw [← hFB] at hV0 ⊢
 rw [← hgg] at hR0 ⊢
 have hg1 : w1.heap.size ≤ g := by omega
 have hVlt := hV0.lt
 have hgFB : FB < g := by omega
 have zw1 := hb0.size
 clear hw1 hg hgg hFB
 go_loopw [15] (fun i wr => ∃ j : Nat, j ≤ N ∧ i = .int .i64 j ∧ Hid (∀ t, t < j → Rep (f t / φ)) ∧ Hid (rowGe wr g 45 (N * 2) (prg j fun t => f t / φ)) ∧ Below w1.heap.size w1 wr) (fun i _ => N - (intOf i).toNat)
 case atStart => exact ⟨0, by omega, rfl, Lib.hid (fun t ht => absurd ht (by omega)), Lib.hid (prg_start hR0), hb1⟩
 case round =>
  clear hb1 hR0
  obtain ⟨j, hj, rfl, hrep, hrow, hbel⟩ := hrel
  obtain ⟨wu, hwu⟩ : ∃ wu : World, wu = wr := ⟨_, rfl⟩
  rw [← hwu] at hrow hbel ⊢
  clear hwu
  have zu := hbel.size
  have hbw := hb0.trans (hbel.mono zw1)
  by_cases hlt : j < N
  ·obtain ⟨b1, o1, ea, hb1, hc1⟩ := HF.out.at_ (by rw [frq_len]; exact hlt)
   subst ea
   have hc := hc1 j (by rw [frq_len]; exact hlt)
   rw [(frq_at hlt).1, (frq_at hlt).2] at hc
   have d1 := (hbw.cell (p := ⟨b1, o1 + j * 2, none⟩) hb1).trans hc.1
   have d2 := (hbw.cell (p := ⟨b1, o1 + j * 2 + 1, none⟩) hb1).trans hc.2
   have g1 : b1 < wu.heap.size := by have := hbw.size; omega
   have j0 : (0 : Int) ≤ (j : Int) := by omega
   have j1 : (j : Int) < (N : Int) := by omega
   obtain ⟨t0, t1, t2, _, _⟩ := id (hV0.up hbel)
   have kk := KD.out j hlt
   have HL := Lib.hid hlt
   clear hc1 hc
   by_cases hrj : Rep (f j / φ)
   ·rw [rep_toF hrj] at kk
    unfold RetFC at kk
    dsimp only at kk
    obtain ⟨p, hp⟩ : ∃ p, p = (f j / φ).num := ⟨_, rfl⟩
    obtain ⟨q, hq⟩ : ∃ q, q = ((f j / φ).den : Int) := ⟨_, rfl⟩
    rw [← hp, ← hq] at kk
    have K5 := Lib.hid kk
    have HP := Lib.hid hp
    have HQ := Lib.hid hq
    have HR2 := Lib.hid (show ∀ t, t < j + 1 → Rep (f t / φ) from fun t ht => by
     by_cases e : t = j
     ·subst e; exact hrj
     ·exact hrep.out t (by omega))
    clear kk hp hq hrj
    go_wp2_with fail
    refine wp_region_G 5 (fun w' => ∀ b o, w'.cell? ⟨b, o, none⟩ = if b < wu.heap.size then wu.cell? ⟨b, o, none⟩ else hidC w' b o) (by kernel_rfl) (cif (B := wu.heap.size) (W := wu) (Below.refl _ _).drew) ?_
    apply merge2 (F := fun (wC : World) (H : Nat) => (Own2 wC H p q) ∧ (Below wu.heap.size wu wC))
    ·intro nd5_9_10
     apply merge2 (F := fun (wC : World) (H : Nat) => (RSt wu wC (some H)))
     ·intro nd5_9
      apply merge1 (F := fun (wC : World) => (RSt wu wC none))
      ·intro nd5
       apply merge2 (F := fun (wC : World) (H : Nat) => (RSt wu wC (some H)))
       ·intro nd9
        intro g0
        have ST := Lib.hid (RSt.start wu)
        generalize World.drew wu = wC at ST g0 ⊢
        refine wpS1 0 g0 ?_; intro g1; clear g0
        refine wpS1 1 g1 ?_; intro g2; clear g1
        refine wpS1 2 g2 ?_; intro g3; clear g2
        refine wpS2 3 g3 ?_; intro g4; clear g3
        refine wpS2 4 g4 ?_; intro g5; clear g4
        have g00 := g5; clear g5; have g0 := g00; clear g00
        refine wpAnyG_ready (rs := [5, 9]) (by kernel_rfl) (by simp) (AllG.cons rfl g0 (fun K hK => ?_) (AllG.cons rfl g0 (fun K hK => ?_) AllG.nil))
        ·go_simp; go_at_call 118; refine (K5.out _).mono ?_; rintro e wN ⟨rfl, hb⟩; have ST' := ST.out.up hb; clear hb; clear ST; have ST := Lib.hid ST'; clear ST'
         refine hK.out _ _ (Or.inl rfl) (fun g1 => wpN ?_); clear hK g0
         refine wpS1 6 g1 ?_; intro g2; clear g1
         refine wpS1 7 g2 ?_; intro g3; clear g2
         refine wpS1 8 g3 ?_; intro g4; clear g3
         exact node_here (nd5 wN ST.out) g4
        ·go_simp; refine ST.out.k9 (fun wN ST' => ?_); generalize wC.heap.size = H at ST' ⊢; clear ST; have ST := Lib.hid ST'; clear ST'
         refine hK.out _ _ (Or.inr (cif ST.out.bel)) (fun g1 => wpN ?_); clear hK g0
         exact node_here (nd9 wN H ST.out) g1
       ·rintro wC H f0 g0
        have ST := Lib.hid f0; clear f0
        refine wpAnyG_ready (rs := [5]) (by kernel_rfl) (by simp) (AllG.cons rfl g0 (fun K hK => ?_) AllG.nil)
        ·go_simp; go_at_call 118; refine (K5.out _).mono ?_; rintro e wN ⟨rfl, hb⟩; have ST' := ST.out.up hb; clear hb; clear ST; have ST := Lib.hid ST'; clear ST'
         refine hK.out _ _ (Or.inl rfl) (fun g1 => wpN ?_); clear hK g0
         refine wpS1 6 g1 ?_; intro g2; clear g1
         refine wpS1 7 g2 ?_; intro g3; clear g2
         refine wpS1 8 g3 ?_; intro g4; clear g3
         exact node_here (nd5_9 wN H ST.out) g4
      ·rintro wC f0 g0
       have ST := Lib.hid f0; clear f0
       refine wpAnyG_ready (rs := [9]) (by kernel_rfl) (by simp) (AllG.cons rfl g0 (fun K hK => ?_) AllG.nil)
       ·go_simp; refine ST.out.k9 (fun wN ST' => ?_); generalize wC.heap.size = H at ST' ⊢; clear ST; have ST := Lib.hid ST'; clear ST'
        refine hK.out _ _ (Or.inl rfl) (fun g1 => wpN ?_); clear hK g0
        exact node_move (by kernel_rfl) (nd5_9 wN H ST.out) g1
     ·rintro wC H f0 g0
      have ST := Lib.hid f0; clear f0
      refine wpAnyG_ready (rs := [10]) (by kernel_rfl) (by simp) (AllG.cons rfl g0 (fun K hK => ?_) AllG.nil)
      ·obtain ⟨hX, hXb⟩ := ST.out.box _ rfl; obtain ⟨y0, y1, y2, y3, y4⟩ := id hX; go_simp; obtain ⟨wN, hwN⟩ : ∃ wN, wN = (wC.setCell ⟨H, 0, none⟩ (.int .i64 p)).setCell ⟨H, 1, none⟩ (.int .i64 q) := ⟨_, rfl⟩; have HX := Lib.hid (show Own2 wN H p q by rw [hwN]; exact hX.put); have HE1 := Lib.hid (show Below wu.heap.size wu wN by rw [hwN]; exact (ST.out.bel.setCell hXb _).setCell hXb _); rw [← hwN]; clear hwN y0 y1 y2 y3 y4 hX hXb ST
       refine hK.out _ _ (Or.inl rfl) (fun g1 => wpN ?_); clear hK g0
       refine wpS1 11 g1 ?_; intro g2; clear g1
       exact node_here (nd5_9_10 wN H ⟨HX.out, HE1.out⟩) g2
    ·rintro wC H ⟨f0, f1⟩ g0
     have HX := Lib.hid f0; clear f0
     have HE1 := Lib.hid f1; clear f1
     refine wpAnyG_done (by kernel_rfl) ?_ _; clear g0
     obtain ⟨x0, x1, x2, _, _⟩ := id HX.out
     have Hr := Lib.hid (rowGe.up hrow.out HE1.out)
     obtain ⟨r0, r1⟩ := prg_cell Hr.out HL.out
     have r2 := rowGe.frozen Hr.out (j * 2)
     have r3 := rowGe.frozen Hr.out (j * 2 + 1)
     have r4 := rowGe.lt Hr.out
     have hb2 := hbel.trans (HE1.out.mono zu)
     clear d1 d2 t0 t1 t2 g1
     go_wp2
     go_roundw
     case rel => exact ⟨j + 1, by omega, by go_num, HR2, Lib.hid (prg_step Hr.out HP.out HQ.out), (hb2.setCell (p := ⟨g, j * 2, none⟩) hg1 _).setCell (p := ⟨g, j * 2 + 1, none⟩) hg1 _⟩
     case measure => simp [intOf]; omega
   ·have HE := Lib.hid (show ∀ w', OvRet f φ N (.returned (.tuple #[.slice none 0 0, .bool false])) w' from fun w' => .inl ⟨⟨j, hlt, hrj⟩, rfl⟩)
    rw [not_rep hrj] at kk
    unfold RetFC at kk
    dsimp only at kk
    have K5 := Lib.hid kk
    clear kk hrj
    go_wp2_with fail
    refine wp_region_G 5 (fun w' => ∀ b o, w'.cell? ⟨b, o, none⟩ = if b < wu.heap.size then wu.cell? ⟨b, o, none⟩ else hidC w' b o) (by kernel_rfl) (cif (B := wu.heap.size) (W := wu) (Below.refl _ _).drew) ?_
    apply merge2 (F := fun (wC : World) (H : Nat) => (Own2 wC H 0 0) ∧ (Below wu.heap.size wu wC))
    ·intro nd5_9_10
     apply merge2 (F := fun (wC : World) (H : Nat) => (RSt wu wC (some H)))
     ·intro nd5_9
      apply merge1 (F := fun (wC : World) => (RSt wu wC none))
      ·intro nd5
       apply merge2 (F := fun (wC : World) (H : Nat) => (RSt wu wC (some H)))
       ·intro nd9
        intro g0
        have ST := Lib.hid (RSt.start wu)
        generalize World.drew wu = wC at ST g0 ⊢
        refine wpS1 0 g0 ?_; intro g1; clear g0
        refine wpS1 1 g1 ?_; intro g2; clear g1
        refine wpS1 2 g2 ?_; intro g3; clear g2
        refine wpS2 3 g3 ?_; intro g4; clear g3
        refine wpS2 4 g4 ?_; intro g5; clear g4
        have g00 := g5; clear g5; have g0 := g00; clear g00
        refine wpAnyG_ready (rs := [5, 9]) (by kernel_rfl) (by simp) (AllG.cons rfl g0 (fun K hK => ?_) (AllG.cons rfl g0 (fun K hK => ?_) AllG.nil))
        ·go_simp; go_at_call 118; refine (K5.out _).mono ?_; rintro e wN ⟨rfl, hb⟩; have ST' := ST.out.up hb; clear hb; clear ST; have ST := Lib.hid ST'; clear ST'
         refine hK.out _ _ (Or.inl rfl) (fun g1 => wpN ?_); clear hK g0
         refine wpS1 6 g1 ?_; intro g2; clear g1
         refine wpS1 7 g2 ?_; intro g3; clear g2
         refine wpS1 8 g3 ?_; intro g4; clear g3
         exact node_here (nd5 wN ST.out) g4
        ·go_simp; refine ST.out.k9 (fun wN ST' => ?_); generalize wC.heap.size = H at ST' ⊢; clear ST; have ST := Lib.hid ST'; clear ST'
         refine hK.out _ _ (Or.inr (cif ST.out.bel)) (fun g1 => wpN ?_); clear hK g0
         exact node_here (nd9 wN H ST.out) g1
       ·rintro wC H f0 g0
        have ST := Lib.hid f0; clear f0
        refine wpAnyG_ready (rs := [5]) (by kernel_rfl) (by simp) (AllG.cons rfl g0 (fun K hK => ?_) AllG.nil)
        ·go_simp; go_at_call 118; refine (K5.out _).mono ?_; rintro e wN ⟨rfl, hb⟩; have ST' := ST.out.up hb; clear hb; clear ST; have ST := Lib.hid ST'; clear ST'
         refine hK.out _ _ (Or.inl rfl) (fun g1 => wpN ?_); clear hK g0
         refine wpS1 6 g1 ?_; intro g2; clear g1
         refine wpS1 7 g2 ?_; intro g3; clear g2
         refine wpS1 8 g3 ?_; intro g4; clear g3
         exact node_here (nd5_9 wN H ST.out) g4
      ·rintro wC f0 g0
       have ST := Lib.hid f0; clear f0
       refine wpAnyG_ready (rs := [9]) (by kernel_rfl) (by simp) (AllG.cons rfl g0 (fun K hK => ?_) AllG.nil)
       ·go_simp; refine ST.out.k9 (fun wN ST' => ?_); generalize wC.heap.size = H at ST' ⊢; clear ST; have ST := Lib.hid ST'; clear ST'
        refine hK.out _ _ (Or.inl rfl) (fun g1 => wpN ?_); clear hK g0
        exact node_move (by kernel_rfl) (nd5_9 wN H ST.out) g1
     ·rintro wC H f0 g0
      have ST := Lib.hid f0; clear f0
      refine wpAnyG_ready (rs := [10]) (by kernel_rfl) (by simp) (AllG.cons rfl g0 (fun K hK => ?_) AllG.nil)
      ·obtain ⟨hX, hXb⟩ := ST.out.box _ rfl; obtain ⟨y0, y1, y2, y3, y4⟩ := id hX; go_simp; obtain ⟨wN, hwN⟩ : ∃ wN, wN = (wC.setCell ⟨H, 0, none⟩ (.int .i64 0)).setCell ⟨H, 1, none⟩ (.int .i64 0) := ⟨_, rfl⟩; have HX := Lib.hid (show Own2 wN H 0 0 by rw [hwN]; exact hX.put); have HE1 := Lib.hid (show Below wu.heap.size wu wN by rw [hwN]; exact (ST.out.bel.setCell hXb _).setCell hXb _); rw [← hwN]; clear hwN y0 y1 y2 y3 y4 hX hXb ST
       refine hK.out _ _ (Or.inl rfl) (fun g1 => wpN ?_); clear hK g0
       refine wpS1 11 g1 ?_; intro g2; clear g1
       exact node_here (nd5_9_10 wN H ⟨HX.out, HE1.out⟩) g2
    ·rintro wC H ⟨f0, f1⟩ g0
     have HX := Lib.hid f0; clear f0
     have HE1 := Lib.hid f1; clear f1
     refine wpAnyG_done (by kernel_rfl) ?_ _; clear g0
     have hb2 := hbel.trans (HE1.out.mono zu)
     have hb3 := hb0.trans (hb2.mono zw1)
     clear d1 d2 t0 t1 t2 g1
     go_wp2
     refine bodyPost_ret (v := .tuple #[.slice none 0 0, .bool false]) (by simp [results, Tryz.results107, go_sem]) rfl ⟨HE.out _, hb3⟩
  ·obtain rfl : N = j := by omega
   have HE := Lib.hid (show OvRet f φ N (.returned (.tuple #[.slice (some ⟨g, 0, none⟩) N N, .bool true])) wu from .inr ⟨hrep.out, g, rfl, prg_end hrow.out⟩)
   go_wp2
   refine bodyPost_ret (v := .tuple #[.slice (some ⟨g, 0, none⟩) N N, .bool true]) (by simp [results, Tryz.results107, go_sem]) rfl ⟨HE.out, hbw⟩

end Go.Proofs.YtaampjhdgeoicaaGreat
