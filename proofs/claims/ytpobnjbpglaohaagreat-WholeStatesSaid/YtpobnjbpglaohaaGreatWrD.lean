/- succgen: build, walked. -/
import Derived.Test.YtpobnjbpglaohaaGreatWgA
import Derived.Test.YtpobnjbpglaohaaGreatWrC
import Derived.Deep.CutBlock
import Derived.Deep.DeepCutAuto
namespace Go.Proofs.YtpobnjbpglaohaaGreat
set_option linter.unusedSimpArgs false
set_option linter.unusedVariables false
open Go Go.RowKit
set_option linter.unusedVariables false

/-- What build returns: a tree. -/
def BuR (t : Tsk) (l : List Nat) (v : Nat) (A : Option Addr) (w : World) (e : Ending) (w' : World) : Prop := ∃ (np : Option Addr) (C : List Int → List Int), e = .returned (.pointer np) ∧ (∀ s, StP t.vars s → (C s).Perm (nI (appV t v s l))) ∧ ∀ bad : Nat → Prop, (∀ b, w.heap.size ≤ b → b < w'.heap.size → ¬ bad b) → IntK w bad A (nI l) → NodeIs w' bad t.vars (.pointer np) C
theorem make_tab (N : Nat) (hN : N ≤ 100000) (w : World) : (Instr.makeSlice 131 (.int .i64 (N : Int)) (.int .i64 (N : Int))).run Tryz.prog w = .ok (.slice (some ⟨w.heap.size, 0, none⟩) N N) (w.alloc (.cells (tabC N fun _ => .slice none 0 0) 22)) := by
  obtain ⟨i, hi, hz, hs, hb⟩ := info_parts (show (Tryz.prog.info? 22).map (fun i => (i.zero, i.size, i.bytes)) = some (some (.slice none 0 0), 1, 24) by kernel_rfl)
  have h := run_make (P := Tryz.prog) w 131 22 i _ (show Tryz.prog.underlying 131 = some (.slice 22) by kernel_rfl) hi hz .i64 .i64 (N : Int) (N : Int) (by omega) (Int.le_refl _) (by rw [hb]; omega) (by omega)
  rw [Int.toNat_natCast, hs, Nat.mul_one] at h
  rw [← tabC_nil]
  exact h
theorem nd_ptr : Tryz.prog.underlying 128 = some (.slice 80) := by kernel_rfl
theorem nd_inf : (Tryz.prog.info? 80).map (fun i => (i.zero, i.size, i.bytes)) = some (some (.pointer none), 1, 8) := by kernel_rfl

set_option maxRecDepth 20000 in
set_option maxHeartbeats 16000000 in
theorem build_any (d : Nat) : ∀ (t : Tsk) (p : Lies) (G : Nat) (root : Value) (l : List Nat) (A : Option Addr) (c v : Nat) (w : World), t.vars.length ≤ v + d → v ≤ t.vars.length → GnAt w G t p root → Right t → IntsAt w w.heap.size A (nI l) → l.length ≤ 4096 → (∀ k ∈ l, k < t.ops.length) →
    Calls Tryz.prog 33 #[.pointer (some ⟨G, 0, none⟩), .slice A l.length c, .int .i64 v] w fun e w' => BuR t l v A w e w' ∧ Below w.heap.size w w' := by
  induction d using Nat.strongRecOn with
  | _ d IH =>
  intro t p G root l A c v w hd hv hg hr hl hll hop
  obtain ⟨ii, hi1, iq0, iq1, iq2⟩ := info_parts infoI
  have HIH := Lib.hid IH
  have HG := Lib.hid hg
  have HR := Lib.hid hr
  have HL := Lib.hid hl
  have HOP := Lib.hid hop
  have hnv := hr.nv
  clear IH hg hr hl hop
  go_enter Tryz.func33, Tryz.ntmps33
  go_upto_region 0 with fail
  go_cut [3, 5] (fun v3 v5 wx => v3 = .pointer (some ⟨w.heap.size, 0, none⟩) ∧ v5 = .pointer (some ⟨w.heap.size + 1, 0, none⟩) ∧ Hid (Below w.heap.size w wx) ∧ Hid (BxI wx w.heap.size 34 #[.pointer (some ⟨G, 0, none⟩)]) ∧ Hid (BxI wx (w.heap.size + 1) 3 #[.int .i64 v]) ∧ wx.heap.size = w.heap.size + 2)
  case first =>
    go_wp2
    go_meet
    exact ⟨rfl, rfl, Lib.hid (by repeat (first | exact Below.refl _ _ | refine below_dN ?_ _ | refine Below.drew ?_ | refine Below.alloc ?_ (by first | omega | (simp; done) | (simp; omega)) _ | refine Below.setCell ?_ (by first | omega | (simp; done) | (simp; omega)) _ | refine below_step (by assumption) (by first | omega | (simp; done) | (simp; omega)) ?_)), Lib.hid ((BxI.new w _ _).up (by repeat (first | exact Below.refl _ _ | refine below_dN ?_ _ | refine Below.drew ?_ | refine Below.alloc ?_ (by first | omega | (simp; done) | (simp; omega)) _ | refine Below.setCell ?_ (by first | omega | (simp; done) | (simp; omega)) _ | refine below_step (by assumption) (by first | omega | (simp; done) | (simp; omega)) ?_))), Lib.hid (BxI.new2 w _ _ _), by simp⟩
  case rest =>
  obtain ⟨rfl, rfl, HB0, HX1, HX2, hz0⟩ := hcut
  by_cases hl0 : l = []
  · subst hl0
    go_wp2
    refine bodyPost_ret (v := .pointer none) (by simp [results, Tryz.results33, go_sem, ↓IntWalk.iteOmega, *]) rfl ⟨⟨none, fun _ => [], rfl, fun s hs => by simp [appV, nI], fun bad _ _ => .nil⟩, HB0.out⟩
  · have hlp : 0 < l.length := List.length_pos_iff.2 hl0
    obtain ⟨W0, rfl⟩ : ∃ W0, W0 = wc := ⟨_, rfl⟩
    have hd0 : ((l.length : Int) == 0) = false := by rw [beq_eq_false_iff_ne]; omega
    go_wp2_with fail
    clear hd0
    go_loopw [32] (fun _ wr => ∃ q : Nat, v ≤ q ∧ q ≤ t.vars.length ∧ Hid (BxI wr (w.heap.size + 1) 3 #[.int .i64 q]) ∧ Hid (∀ j, v ≤ j → j < q → hasV t l j = false) ∧ Hid (BxI wr w.heap.size 34 #[.pointer (some ⟨G, 0, none⟩)]) ∧ Hid (Below w.heap.size w wr)) (fun _ wr => t.vars.length - (RowKit.intOf ((wr.cell? ⟨w.heap.size + 1, 0, none⟩).getD undef)).toNat)
    case atStart => exact ⟨v, Nat.le_refl _, hv, HX2, Lib.hid (fun j h1 h2 => by omega), HX1, HB0⟩
    case round =>
      obtain ⟨q, hvq, hq, HXV, HNO, HXG, HE⟩ := hrel
      have hzr := HE.out.size
      have hgr := Lib.hid (HG.out.up HE.out)
      have HSR := Lib.hid (show ∀ w' : World, Below wr.heap.size wr w' → w'.cell? ⟨w.heap.size + 1, 0, none⟩ = some (.int .i64 q) ∧ w'.cell? ⟨w.heap.size, 0, none⟩ = some (.pointer (some ⟨G, 0, none⟩)) ∧ w'.cell? ⟨G, 0, none⟩ = some (.slice p.av t.vars.length p.cv) from fun w' hb => ⟨(HXV.out.up hb).cell 0 _ rfl, (HXG.out.up hb).cell 0 _ rfl, (hgr.out.box.up hb).cell 0 _ rfl⟩)
      have e0 := HXV.out.cell 0 _ rfl
      have hxvl := HXV.out.lt
      obtain ⟨wt, rfl⟩ : ∃ wt : World, wt = wr := ⟨_, rfl⟩
      by_cases hlt : q < t.vars.length
      · have KC := Lib.hid (fun W (k : Below wt.heap.size wt W) => gcon_any t p G w.heap.size (w.heap.size + 1) root l A c q W (hgr.out.up k) HR.out ((HL.out.up HE.out).up k) hll HOP.out (HXG.out.up k) (HXV.out.up k))
        have hd1 : decide ((q : Int) < (t.vars.length : Int)) = true := decide_eq_true (by omega)
        go_upto_region 3 with fail
        go_cut [32] (fun v32 wx => v32 = .bool (!hasV t l q) ∧ Hid (Below wt.heap.size wt wx))
        case first =>
          refine wp_region_G 10 (fun w' => w'.cell? ⟨w.heap.size + 1, 0, none⟩ = some (.int .i64 q) ∧ w'.cell? ⟨w.heap.size, 0, none⟩ = some (.pointer (some ⟨G, 0, none⟩)) ∧ w'.cell? ⟨G, 0, none⟩ = some (.slice p.av t.vars.length p.cv)) (by kernel_rfl) (HSR.out _ (by repeat (first | exact Below.refl _ _ | refine below_dN ?_ _ | refine Below.drew ?_ | refine Below.alloc ?_ (by first | omega | (simp; done) | (simp; omega)) _ | refine Below.setCell ?_ (by first | omega | (simp; done) | (simp; omega)) _ | refine below_step (by assumption) (by first | omega | (simp; done) | (simp; omega)) ?_))) ?_
          intro hG0
          refine wpS2 0 hG0 ?_; intro hG1; clear hG0
          refine wpS2 1 hG1 ?_; intro hG2; clear hG1
          refine wpS1 2 hG2 ?_; intro hG3; clear hG2
          refine wpS1 3 hG3 ?_; intro hG4; clear hG3
          refine wpS1 4 hG4 ?_; intro hG5; clear hG4
          refine wpS2 5 hG5 ?_; intro hG6; clear hG5
          refine wpS1 6 hG6 ?_; intro hG7; clear hG6
          refine wpS1 7 hG7 ?_; intro hG8; clear hG7
          refine wpS3 8 (.bool true) hG8 ?_; intro hG9; clear hG8
          refine wpS1 9 hG9 ?_; intro hG10; clear hG9
          refine wpAnyG_ready (rs := [10]) (by kernel_rfl) (by simp) (AllG.cons rfl hG10 (fun K hK => ?_) AllG.nil)
          refine (if_pos (by rfl)).mpr ?_
          (go_simp)
          refine hK.out _ _ (Or.inl rfl) (fun hG11 => wpN ?_); clear hK hG10
          refine wpAnyG_ready (rs := [11]) (by kernel_rfl) (by simp) (AllG.cons rfl hG11 (fun K hK => ?_) AllG.nil)
          refine (if_pos (by rfl)).mpr ?_
          (go_simp; go_at_call 56; refine (KC.out _ (by repeat (first | exact Below.refl _ _ | refine below_dN ?_ _ | refine Below.drew ?_ | refine Below.alloc ?_ (by first | omega | (simp; done) | (simp; omega)) _ | refine Below.setCell ?_ (by first | omega | (simp; done) | (simp; omega)) _ | refine below_step (by assumption) (by first | omega | (simp; done) | (simp; omega)) ?_))).mono ?_; rintro e w4 ⟨rfl, hb4⟩; have HB4 := Lib.hid (show Below wt.heap.size wt w4 from below_step hb4 (show wt.heap.size ≤ _ by simp) (show Below wt.heap.size wt _ by repeat (first | exact Below.refl _ _ | refine below_dN ?_ _ | refine Below.drew ?_ | refine Below.alloc ?_ (by first | omega | (simp; done) | (simp; omega)) _ | refine Below.setCell ?_ (by first | omega | (simp; done) | (simp; omega)) _ | refine below_step (by assumption) (by first | omega | (simp; done) | (simp; omega)) ?_))); clear hb4)
          refine hK.out _ _ (Or.inl rfl) (fun hG12 => wpN ?_); clear hK hG11
          refine wpS1 12 hG12 ?_; intro hG13; clear hG12
          refine wpS1 13 hG13 ?_; intro hG14; clear hG13
          refine wpAnyG_done (by kernel_rfl) ?_ _; clear hG14
          go_wp2
          go_meet
          exact ⟨rfl, HB4⟩
        case rest =>
          obtain ⟨rfl, HB4⟩ := hcut
          cases hh : hasV t l q
          · have HN2 := Lib.hid (show ∀ j, v ≤ j → j < q + 1 → hasV t l j = false from fun j h1 h2 => by
              by_cases e : j = q
              · subst e; exact hh
              · exact HNO.out j h1 (by omega))
            have e4 := (HXV.out.up HB4.out).cell 0 _ rfl
            have f4 := (HXV.out.up HB4.out).fz 0
            have hxl4 := (HXV.out.up HB4.out).lt
            go_wp2
            go_roundw
            case rel => exact ⟨q + 1, by omega, by omega, Lib.hid ((HXV.out.up HB4.out).set 0 _), HN2, Lib.hid ((HXG.out.up HB4.out).far (by simp) _), Lib.hid ((HE.out.trans (HB4.out.mono hzr)).setCell (p := ⟨w.heap.size + 1, 0, none⟩) (by simp) _)⟩
            case measure =>
              have e5 := ((HXV.out.up HB4.out).set 0 (.int .i64 ((q : Int) + 1))).cell 0 _ rfl
              rw [e5, e0]
              simp [RowKit.intOf]
              omega
          · go_wp2_with fail
            have HXV4 := Lib.hid (HXV.out.up HB4.out)
            have HXG4 := Lib.hid (HXG.out.up HB4.out)
            have HE4 := Lib.hid (HE.out.trans (HB4.out.mono hzr))
            have hgr4 := Lib.hid (HG.out.up HE4.out)
            have y0 := HXV4.out.cell 0 _ rfl
            have y1 := HXG4.out.cell 0 _ rfl
            have y2 := hgr4.out.box.cell 0 _ rfl
            have hd5 : ((q : Int) == (t.vars.length : Int)) = false := by rw [beq_eq_false_iff_ne]; omega
            go_quiet (fail)
            go_wp2_with fail
            clear hd5 y0 y1 y2
            obtain ⟨W4, hW4⟩ : ∃ W, W = wc.drewN nq := ⟨_, rfl⟩
            rw [← hW4]
            have HB4 := Lib.hid (show Below wt.heap.size wt W4 by rw [hW4]; exact below_dN HB4.out nq)
            have HXV4 := Lib.hid (HXV.out.up HB4.out)
            have HXG4 := Lib.hid (HXG.out.up HB4.out)
            have HE4 := Lib.hid (HE.out.trans (HB4.out.mono hzr))
            have hgr4 := Lib.hid (HG.out.up HE4.out)
            clear hW4
            obtain ⟨hk1, hk2⟩ := HR.out.dom q hlt
            obtain ⟨k, hk⟩ : ∃ k : Nat, nth t.vars q = (k : Int) := ⟨(nth t.vars q).toNat, by omega⟩
            obtain ⟨vb, vo, ea, hvb, hvc⟩ := hgr4.out.task.vars.2 (by omega)
            have i0 := hvc q hlt
            rw [hk] at i0 hk1 hk2
            have HKQ := Lib.hid hk
            have HS7 := Lib.hid (show ∀ w' : World, Below W4.heap.size W4 w' → w'.cell? ⟨w.heap.size, 0, none⟩ = some (.pointer (some ⟨G, 0, none⟩)) ∧ w'.cell? ⟨G, 0, none⟩ = some (.slice (some ⟨vb, vo, none⟩) t.vars.length p.cv) ∧ w'.cell? ⟨w.heap.size + 1, 0, none⟩ = some (.int .i64 q) ∧ w'.cell? ⟨vb, vo + q, none⟩ = some (.int .i64 k) from fun w' hb => ⟨(HXG4.out.up hb).cell 0 _ rfl, ((hgr4.out.box.up hb).cell 0 _ rfl).trans (by rw [← ea]; rfl), (HXV4.out.up hb).cell 0 _ rfl, (hb.cell (p := ⟨vb, vo + q, none⟩) hvb).trans i0⟩)
            clear hvc ea i0 hk
            go_cut [7] (fun v7 wx => v7 = .slice (some ⟨W4.heap.size, 0, none⟩) k k ∧ Hid (BxI wx W4.heap.size 22 (tabC k fun _ => .slice none 0 0)) ∧ Hid (Below W4.heap.size W4 wx) ∧ W4.heap.size + 1 ≤ wx.heap.size)
            case first =>
              refine wp_region_G 8 (fun w' => w'.cell? ⟨w.heap.size, 0, none⟩ = some (.pointer (some ⟨G, 0, none⟩)) ∧ w'.cell? ⟨G, 0, none⟩ = some (.slice (some ⟨vb, vo, none⟩) t.vars.length p.cv) ∧ w'.cell? ⟨w.heap.size + 1, 0, none⟩ = some (.int .i64 q) ∧ w'.cell? ⟨vb, vo + q, none⟩ = some (.int .i64 k)) (by kernel_rfl) (HS7.out _ (by repeat (first | exact Below.refl _ _ | refine below_dN ?_ _ | refine Below.drew ?_ | refine Below.alloc ?_ (by first | omega | (simp; done) | (simp; omega)) _ | refine Below.setCell ?_ (by first | omega | (simp; done) | (simp; omega)) _ | refine below_step (by assumption) (by first | omega | (simp; done) | (simp; omega)) ?_))) ?_
              intro hG0
              refine wpS2 0 hG0 ?_; intro hG1; clear hG0
              refine wpS1 1 hG1 ?_; intro hG2; clear hG1
              refine wpS1 2 hG2 ?_; intro hG3; clear hG2
              refine wpS1 3 hG3 ?_; intro hG4; clear hG3
              refine wpS2 4 hG4 ?_; intro hG5; clear hG4
              refine wpS2 5 hG5 ?_; intro hG6; clear hG5
              refine wpS1 6 hG6 ?_; intro hG7; clear hG6
              refine wpS2 7 hG7 ?_; intro hG8; clear hG7
              refine wpAnyG_ready (rs := [8]) (by kernel_rfl) (by simp) (AllG.cons rfl hG8 (fun K hK => ?_) AllG.nil)
              (have hl := make_tab k (by omega) W4.drew; go_simp; clear hl)
              refine hK.out _ _ (Or.inl rfl) (fun hG9 => wpN ?_); clear hK hG8
              refine wpS1 9 hG9 ?_; intro hG10; clear hG9
              refine wpAnyG_done (by kernel_rfl) ?_ _; clear hG10
              go_wp2
              go_meet
              exact ⟨rfl, Lib.hid (BxI.new W4.drew _ _), Lib.hid (by repeat (first | exact Below.refl _ _ | refine below_dN ?_ _ | refine Below.drew ?_ | refine Below.alloc ?_ (by first | omega | (simp; done) | (simp; omega)) _ | refine Below.setCell ?_ (by first | omega | (simp; done) | (simp; omega)) _ | refine below_step (by assumption) (by first | omega | (simp; done) | (simp; omega)) ?_)), by simp⟩
            case rest =>
            obtain ⟨rfl, HY, HB5, hz5⟩ := hcut
            obtain ⟨W5, rfl⟩ : ∃ W5, W5 = wc := ⟨_, rfl⟩
            have HE5 := Lib.hid (HE4.out.trans (HB5.out.mono (HE4.out.size)))
            have hw5 := HE5.out.size
            go_wp2_with fail
            go_loopw [8, 57] (fun v8 v57 wr => ∃ (i : Nat) (vs : Nat → Value), v8 = vs k ∧ v57 = .int .i64 i ∧ i ≤ l.length ∧ Hid (BxI wr W4.heap.size 22 (tabC k vs)) ∧ Hid (Fam wr W5.heap.size (k + 1) 3 1 vs (fun x => (bR t q l k i x).length) (fun x => ic (nI (bR t q l k i x)))) ∧ Hid (Kb (fun b => b = W4.heap.size) W5 wr)) (fun _ v _ => l.length - (RowKit.intOf v).toNat)
            case atStart => exact ⟨0, fun _ => .slice none 0 0, rfl, rfl, Nat.zero_le _, HY, Lib.hid ((Fam.nil _ _ _ _ _).congr (fun i _ => by rw [bR_zero]; rfl) (fun i _ => by rw [bR_zero]; rfl)), Lib.hid (Kb.refl _ _)⟩
            case round =>
              obtain ⟨i, vs, rfl, rfl, hi, HYR, HF, HKB⟩ := hrel
              have hzr5 := HKB.out.size
              have hw4 := HE4.out.size
              have HER := Lib.hid (below_then HE5.out HKB.out (fun b hb h => by omega) hw5)
              have HXVr := Lib.hid ((HXV4.out.up HB5.out).kb HKB.out (by have := HXV4.out.lt; omega))
              have HXGr := Lib.hid ((HXG4.out.up HB5.out).kb HKB.out (by have := HXG4.out.lt; omega))
              have hgR := Lib.hid (HG.out.up HER.out)
              by_cases hlt5 : i < l.length
              · obtain ⟨lb, lo, rfl, hlb, hlc⟩ := HL.out.2 (by rw [nI_len]; omega)
                have i0 := (HER.out.cell (p := ⟨lb, lo + i, none⟩) hlb).trans (hlc i (by rw [nI_len]; exact hlt5))
                rw [nI_get hlt5] at i0
                have hol := HOP.out _ (opN_mem hlt5)
                obtain ⟨o, ho⟩ : ∃ o, o = opN l i := ⟨_, rfl⟩
                have HOO := Lib.hid ho
                rw [← ho] at i0 hol
                have y0 := HXVr.out.cell 0 _ rfl
                have y1 := HXGr.out.cell 0 _ rfl
                clear hlc ho
                obtain ⟨wt5, rfl⟩ : ∃ wt5 : World, wt5 = wr := ⟨_, rfl⟩
                have KFA := Lib.hid (fun W (kb : Below wt5.heap.size wt5 W) => gfact_any t p G root o q W (hgR.out.up kb) hol HR.out)
                go_wp2_with fail
                refine (KFA.out _ (by repeat (first | exact Below.refl _ _ | refine below_dN ?_ _ | refine Below.drew ?_ | refine Below.alloc ?_ (by first | omega | (simp; done) | (simp; omega)) _ | refine Below.setCell ?_ (by first | omega | (simp; done) | (simp; omega)) _ | refine below_step (by assumption) (by first | omega | (simp; done) | (simp; omega)) ?_))).mono ?_
                rintro e w9 ⟨⟨fa, fb, fc, rfl, hfc⟩, hb9⟩
                have HB9 := Lib.hid (show Below wt5.heap.size wt5 w9 from below_step hb9 (show wt5.heap.size ≤ _ by simp) (show Below wt5.heap.size wt5 _ by repeat (first | exact Below.refl _ _ | refine below_dN ?_ _ | refine Below.drew ?_ | refine Below.alloc ?_ (by first | omega | (simp; done) | (simp; omega)) _ | refine Below.setCell ?_ (by first | omega | (simp; done) | (simp; omega)) _ | refine below_step (by assumption) (by first | omega | (simp; done) | (simp; omega)) ?_)))
                have hz9 := HB9.out.size
                have HF9 := Lib.hid (HF.out.up HB9.out)
                have HY9 := Lib.hid (HYR.out.up HB9.out)
                clear hb9 y0 y1 i0
                rcases hfc with ⟨rfl, hc, j, hj, hfv, rfl, rfl⟩ | ⟨rfl, hc⟩
                · obtain ⟨x, hx, hxk⟩ : ∃ x : Nat, fx (opr t.ops o).pre j = (x : Int) ∧ x < k := by
                    have h1 := fa_at (HR.out.pre o hol) hj
                    rw [hfv, show ((q : Nat) : Int).toNat = q by omega, HKQ.out] at h1
                    exact ⟨(fx (opr t.ops o).pre j).toNat, by omega, by omega⟩
                  rw [hx]
                  have HBR := Lib.hid (fun y (hy : y < k + 1) => bR_yes (x := x) (k := k) HR.out hlt5 (by rw [← HOO.out]; exact hol) (by rw [← HOO.out]; exact hj) (by rw [← HOO.out]; exact hfv) (by rw [← HOO.out]; exact hx) hxk y hy)
                  clear hc hj hfv hx
                  go_wp2_with fail
                  obtain ⟨wA, hwA⟩ : ∃ W, W = w9.alloc (.cells #[.int .i64 q, .int .i64 x] 111) := ⟨_, rfl⟩
                  rw [← hwA]
                  have HFX := Lib.hid (show BxI wA w9.heap.size 111 #[.int .i64 q, .int .i64 x] by rw [hwA]; exact BxI.new _ _ _)
                  have HBA := Lib.hid (show Below w9.heap.size w9 wA by rw [hwA]; exact (Below.refl _ _).alloc (Nat.le_refl _) _)
                  have HYA := Lib.hid (HY9.out.up HBA.out)
                  have HFA := Lib.hid (HF9.out.up HBA.out)
                  have hzA := HBA.out.size
                  have hFlt := HFX.out.lt
                  clear hwA
                  obtain ⟨xA, xC, hxs⟩ := own_shape (HFA.out.own x (by omega))
                  have HOX := Lib.hid (HFA.out.own x (by omega))
                  rw [hxs] at HOX
                  obtain ⟨xn, hxn⟩ : ∃ xn, xn = (bR t q l k i x).length := ⟨_, rfl⟩
                  have hxnl : xn ≤ l.length := by rw [hxn]; exact bR_len _ _ _ _ _ _
                  rw [← hxn] at HOX hxs
                  have HXN := Lib.hid hxn
                  have HXS := Lib.hid hxs
                  have HSA := Lib.hid (show ∀ w' : World, Below wA.heap.size wA w' → w'.cell? ⟨w9.heap.size, 1, none⟩ = some (.int .i64 x) ∧ w'.cell? ⟨W4.heap.size, x, none⟩ = some (.slice xA xn xC) from fun w' hb => ⟨(HFX.out.up hb).cell 1 _ rfl, (HYA.out.up hb).cell x _ (by rw [tabC_get hxk, hxs])⟩)
                  have hOXlt := Lib.hid (fun b hb => HOX.out.lt b hb)
                  clear hxs hxn
                  refine wp_region_G 12 (fun w' => w'.cell? ⟨w9.heap.size, 1, none⟩ = some (.int .i64 x) ∧ w'.cell? ⟨W4.heap.size, x, none⟩ = some (.slice xA xn xC)) (by kernel_rfl) (HSA.out _ (by repeat (first | exact Below.refl _ _ | refine below_dN ?_ _ | refine Below.drew ?_ | refine Below.alloc ?_ (by first | omega | (simp; done) | (simp; omega)) _ | refine Below.setCell ?_ (by first | omega | (simp; done) | (simp; omega)) _ | refine below_step (by assumption) (by first | omega | (simp; done) | (simp; omega)) ?_))) ?_
                  intro hG0
                  refine wpS1 0 hG0 ?_; intro hG1; clear hG0
                  refine wpS1 1 hG1 ?_; intro hG2; clear hG1
                  refine wpS2 2 hG2 ?_; intro hG3; clear hG2
                  refine wpS1 3 hG3 ?_; intro hG4; clear hG3
                  refine wpS1 4 hG4 ?_; intro hG5; clear hG4
                  refine wpS2 5 hG5 ?_; intro hG6; clear hG5
                  refine wpS1 6 hG6 ?_; intro hG7; clear hG6
                  refine wpS2 7 hG7 ?_; intro hG8; clear hG7
                  refine wpS1 8 hG8 ?_; intro hG9; clear hG8
                  refine wpAnyG_ready (rs := [9]) (by kernel_rfl) (by simp) (AllG.cons rfl hG9 (fun K hK => ?_) AllG.nil)
                  (go_simp)
                  refine hK.out _ _ (Or.inr (HSA.out _ (by repeat (first | exact Below.refl _ _ | refine below_dN ?_ _ | refine Below.drew ?_ | refine Below.alloc ?_ (by first | omega | (simp; done) | (simp; omega)) _ | refine Below.setCell ?_ (by first | omega | (simp; done) | (simp; omega)) _ | refine below_step (by assumption) (by first | omega | (simp; done) | (simp; omega)) ?_)))) (fun hG10 => wpN ?_); clear hK hG9
                  refine wpAnyG_ready (rs := [10]) (by kernel_rfl) (by simp) (AllG.cons rfl hG10 (fun K hK => ?_) AllG.nil)
                  (refine step_append_src (by rfl) _ _ 22 (by rfl) W5.heap.size 3 ii (.int .i64 0) 1 8 undI hi1 iq0 iq1 iq2 rfl (by decide) (.slice xA xn xC) xn (ic (nI (bR t q l k i x))) (by rfl) (by exact HOX.out.alloc _) (some ⟨wA.heap.size, 0, none⟩) 1 1 [.int .i64 o] (by rfl) (src_of (heap_alloc_new wA _) rfl (by intro u hu; simp at hu; subst hu; rfl)) (by unfold maxLen; omega) (by omega) (by first | omega | (simp; done) | (simp; omega)) ?_; intro v13 w13 hown13 hgrow13 hat13; obtain ⟨A13, c13, rfl⟩ := own_shape hown13; have HO13 := Lib.hid hown13; have HG13 := Lib.hid hgrow13; have HA13 := Lib.hid hat13; have HFX13 := Lib.hid ((HFX.out.up (show Below wA.heap.size wA _ by repeat (first | exact Below.refl _ _ | refine below_dN ?_ _ | refine Below.drew ?_ | refine Below.alloc ?_ (by first | omega | (simp; done) | (simp; omega)) _ | refine Below.setCell ?_ (by first | omega | (simp; done) | (simp; omega)) _ | refine below_step (by assumption) (by first | omega | (simp; done) | (simp; omega)) ?_))).grown hgrow13 (fun e => own_ne_box HOX.out HFX.out (by decide) _ e.symm rfl)); have HY13 := Lib.hid ((HYA.out.up (show Below wA.heap.size wA _ by repeat (first | exact Below.refl _ _ | refine below_dN ?_ _ | refine Below.drew ?_ | refine Below.alloc ?_ (by first | omega | (simp; done) | (simp; omega)) _ | refine Below.setCell ?_ (by first | omega | (simp; done) | (simp; omega)) _ | refine below_step (by assumption) (by first | omega | (simp; done) | (simp; omega)) ?_))).grown hgrow13 (fun e => own_ne_box HOX.out HYA.out (by decide) _ e.symm rfl)); have HSY13 := Lib.hid (HY13.out.cell x _ (by rw [tabC_get hxk, HXS.out])); clear hown13 hgrow13 hat13)
                  refine hK.out _ _ (Or.inr ⟨HFX13.out.cell 1 _ rfl, HSY13.out⟩) (fun hG11 => wpN ?_); clear hK hG10
                  refine wpS1 11 hG11 ?_; intro hG12; clear hG11
                  refine wpAnyG_ready (rs := [12]) (by kernel_rfl) (by simp) (AllG.cons rfl hG12 (fun K hK => ?_) AllG.nil)
                  (refine step_store1 (by rfl) 22 _ _ (by rfl) W4.heap.size x (.slice A13 (xn + 1) c13) (by rfl) (by rfl) (by rfl) (there_blk HY13.out (by rw [tabC_size]; omega)) (by kernel_rfl) rfl ?_; intro wy HWY)
                  refine hK.out _ _ (Or.inl rfl) (fun hG13 => wpN ?_); clear hK hG12
                  refine wpAnyG_done (by kernel_rfl) ?_ _; clear hG13
                  go_wp2
                  go_roundw
                  case rel =>
                    have hg13 : (wA.alloc (.cells #[.int .i64 o] 3)).grownBy w13 (vs x).ownBlock := by
                      rw [HXS.out]
                      exact ⟨HG13.out.os, HG13.out.tape, HG13.out.output, HG13.out.size, HG13.out.block⟩
                    have FP := HFA.out.push (i := x) (m := 1) (news := [.int .i64 o]) (v' := .slice A13 (xn + 1) c13) (by omega) hg13 (by have h0 := HO13.out; rw [HXN.out] at h0; rw [HXN.out]; exact h0) (by rw [HXS.out]; exact HA13.out)
                    have KG : Kb (fun b => (vs x).ownBlock = some b) wA w13 := (kb_alloc wA _ _).trans (kb_grown hg13)
                    have KB1 := ((HKB.out.up HB9.out).up HBA.out).then_ KG (fun b hb e => by have := ((HFA.out.own x (by omega)).lt b e).1; omega)
                    have KY := kb_set (w := w13) (p := ⟨W4.heap.size, x, none⟩) (.slice A13 (xn + 1) c13)
                    rw [← HWY.out] at KY
                    have FY := FP.kb KY (fun j hj b hb e => by have h1 := ((FP.own j hj).lt b hb).1; have e : b = W4.heap.size := e; omega)
                    have BY := HY13.out.set x (.slice A13 (xn + 1) c13)
                    rw [← HWY.out, tabC_set] at BY
                    refine ⟨i + 1, upd vs x (.slice A13 (xn + 1) c13), (upd_ne _ _ (by omega)).symm, rfl, by omega, Lib.hid BY, Lib.hid (FY.congr (fun j hj => ?_) (fun j hj => ?_)), Lib.hid (KB1.then_ KY (fun b _ h => h))⟩
                    · rw [HBR.out j hj, ← HOO.out]
                      by_cases e : j = x
                      · subst e; rw [upd_at, if_pos rfl, List.length_append]; rfl
                      · rw [upd_ne _ _ e, if_neg e]
                    · rw [HBR.out j hj, ← HOO.out]
                      by_cases e : j = x
                      · subst e; rw [upd_at, if_pos rfl, ← icn_push]
                      · rw [upd_ne _ _ e, if_neg e]
                  case measure => simp [RowKit.intOf]; omega
                · obtain ⟨rA, rC, hrs⟩ := own_shape (HF9.out.own k (by omega))
                  rw [hrs]
                  have HBR := Lib.hid (fun y (hy : y < k + 1) => bR_no (k := k) hlt5 (by rw [← HOO.out]; exact hc) y hy)
                  go_upto_region 15 with fail
                  obtain ⟨wA, hwA⟩ : ∃ W, W = w9.alloc (.cells #[.int .i64 fa, .int .i64 fb] 111) := ⟨_, rfl⟩
                  rw [← hwA]
                  have HBA := Lib.hid (show Below w9.heap.size w9 wA by rw [hwA]; exact (Below.refl _ _).alloc (Nat.le_refl _) _)
                  have HYA := Lib.hid (HY9.out.up HBA.out)
                  have HFA := Lib.hid (HF9.out.up HBA.out)
                  have hzA := HBA.out.size
                  have HOX := Lib.hid (HFA.out.own k (by omega))
                  rw [hrs] at HOX
                  obtain ⟨rn, hrn⟩ : ∃ rn, rn = (bR t q l k i k).length := ⟨_, rfl⟩
                  have hrnl : rn ≤ l.length := by rw [hrn]; exact bR_len _ _ _ _ _ _
                  rw [← hrn] at HOX hrs
                  rw [← hrn]
                  have HRN := Lib.hid hrn
                  have HRS := Lib.hid hrs
                  clear hwA hrs hrn hc
                  go_wp2_with (at_builtin; refine wpList_append_src (by rfl) _ _ 22 (by rfl) W5.heap.size 3 ii (.int .i64 0) 1 8 undI hi1 iq0 iq1 iq2 rfl (by decide) (.slice rA rn rC) rn (ic (nI (bR t q l k i k))) (by rfl) (by exact HOX.out.alloc _) (some ⟨wA.heap.size, 0, none⟩) 1 1 [.int .i64 o] (by rfl) (src_of (heap_alloc_new wA _) rfl (by intro u hu; simp at hu; subst hu; rfl)) (by unfold maxLen; omega) (by omega) (by first | omega | (simp; done) | (simp; omega)) ?_; intro v13 w13 hown13 hgrow13 hat13; obtain ⟨A13, c13, rfl⟩ := own_shape hown13; have HO13 := Lib.hid hown13; have HG13 := Lib.hid hgrow13; have HA13 := Lib.hid hat13; clear hown13 hgrow13 hat13)
                  go_roundw
                  case rel =>
                    have hg13 : (wA.alloc (.cells #[.int .i64 o] 3)).grownBy w13 (vs k).ownBlock := by
                      rw [HRS.out]
                      exact ⟨HG13.out.os, HG13.out.tape, HG13.out.output, HG13.out.size, HG13.out.block⟩
                    have FP := HFA.out.push (i := k) (m := 1) (news := [.int .i64 o]) (v' := .slice A13 (rn + 1) c13) (by omega) hg13 (by have h0 := HO13.out; rw [HRN.out] at h0; rw [HRN.out]; exact h0) (by rw [HRS.out]; exact HA13.out)
                    have KG : Kb (fun b => (vs k).ownBlock = some b) wA w13 := (kb_alloc wA _ _).trans (kb_grown hg13)
                    have KB1 := ((HKB.out.up HB9.out).up HBA.out).then_ KG (fun b hb e => by have := ((HFA.out.own k (by omega)).lt b e).1; omega)
                    have FY := FP
                    have BY := (HYA.out.up (show Below wA.heap.size wA (wA.alloc (.cells #[.int .i64 o] 3)) from (Below.refl _ _).alloc (Nat.le_refl _) _)).grown hg13 (fun e => by have := ((HFA.out.own k (by omega)).lt _ e.symm).1; omega)
                    have BY := (show tabC k vs = tabC k (upd vs k (.slice A13 (rn + 1) c13)) from by
                      unfold tabC
                      congr 1
                      apply List.map_congr_left
                      intro a ha
                      rw [upd_ne _ _ (by have := List.mem_range.1 ha; omega)]) ▸ BY
                    refine ⟨i + 1, upd vs k (.slice A13 (rn + 1) c13), (upd_at _ _ _).symm, rfl, by omega, Lib.hid BY, Lib.hid (FY.congr (fun j hj => ?_) (fun j hj => ?_)), Lib.hid KB1⟩
                    · rw [HBR.out j hj, ← HOO.out]
                      by_cases e : j = k
                      · subst e; rw [upd_at, if_pos rfl, List.length_append]; rfl
                      · rw [upd_ne _ _ e, if_neg e]
                    · rw [HBR.out j hj, ← HOO.out]
                      by_cases e : j = k
                      · subst e; rw [upd_at, if_pos rfl, ← icn_push]
                      · rw [upd_ne _ _ e, if_neg e]
                  case measure => simp [RowKit.intOf]; omega
              · obtain rfl : i = l.length := by omega
                go_wp2_with fail
                obtain ⟨W6, rfl⟩ : ∃ W6, W6 = wr := ⟨_, rfl⟩
                have hbR : ∀ x, bR t q l k l.length x = if x < k then byL t q l (x : Int) else reL t q l := fun x => by unfold bR; rw [List.take_length]
                have hbk : bR t q l k l.length k = reL t q l := by rw [hbR, if_neg (by omega)]
                have HBX := Lib.hid (show ∀ x, x < k → bR t q l k l.length x = byL t q l (x : Int) from fun x hx => by rw [hbR, if_pos hx])
                obtain ⟨rA, rC, hrs⟩ := own_shape (HF.out.own k (by omega))
                rw [hrs]
                have HOR := Lib.hid (HF.out.own k (by omega))
                rw [hrs, hbk] at HOR
                rw [hbk]
                obtain ⟨rn, hrn⟩ : ∃ rn, rn = (reL t q l).length := ⟨_, rfl⟩
                have hrnl : rn ≤ l.length := by rw [hrn]; exact List.length_filter_le _ _
                have HRN := Lib.hid hrn
                have hIKr : ∀ bad : Nat → Prop, (∀ b, (Value.slice rA rn rC).ownBlock = some b → ¬ bad b) → IntK W6 bad rA (nI (reL t q l)) := fun bad hb => own_intk2 (c := rC) (by rw [nI_len]; exact HOR.out) (by rw [nI_len]; omega) (by rw [nI_len, ← hrn]; exact hb)
                have HIR := Lib.hid hIKr
                have KR : ∀ W, Below W6.heap.size W6 W → Calls Tryz.prog 33 #[.pointer (some ⟨G, 0, none⟩), .slice rA rn rC, .int .i64 ((q : Int) + 1)] W fun e w' => BuR t (reL t q l) (q + 1) rA W e w' ∧ Below W.heap.size W w' := fun W kb => by
                  rw [hrn]
                  exact HIH.out (d - 1) (by omega) t p G root (reL t q l) rA rC (q + 1) W (by omega) (by omega) (hgR.out.up kb) HR.out ((hIKr (fun _ => False) (fun _ _ h => h)).at_.up kb) (by omega) (fun o ho => HOP.out o (List.mem_filter.1 ho).1)
                rw [← hrn] at HOR
                rw [← hrn]
                have HKR := Lib.hid KR
                have HS17 := Lib.hid (show ∀ w' : World, Below W6.heap.size W6 w' → w'.cell? ⟨w.heap.size + 1, 0, none⟩ = some (.int .i64 q) ∧ w'.cell? ⟨w.heap.size, 0, none⟩ = some (.pointer (some ⟨G, 0, none⟩)) from fun w' hb => ⟨(HXVr.out.up hb).cell 0 _ rfl, (HXGr.out.up hb).cell 0 _ rfl⟩)
                clear KR hIKr hrn hrs hbk hbR
                have hwq : IntKind.i64.wrap ((q : Int) + 1) = (q : Int) + 1 := i64_nat (q + 1) (by omega)
                go_cut [13] (fun v13 wx => ∃ (W7 : World) (np : Option Addr) (Cr : List Int → List Int), v13 = .pointer (some ⟨W7.heap.size, 0, none⟩) ∧ W6.heap.size ≤ W7.heap.size ∧ W7.heap.size + 1 ≤ wx.heap.size ∧ wx.heap.size ≤ W7.heap.size + 1 ∧ Hid (Below W6.heap.size W6 W7) ∧ Hid (Below W7.heap.size W7 wx) ∧ Hid (BxI wx W7.heap.size 130 #[.slice none 0 0, .bool false, .int .i64 q, .slice none 0 0, .pointer np]) ∧ Hid (∀ s, StP t.vars s → (Cr s).Perm (nI (appV t (q + 1) s (reL t q l)))) ∧
                  Hid (∀ bad : Nat → Prop, (∀ b, W6.heap.size ≤ b → b < W7.heap.size → ¬ bad b) → IntK W6 bad rA (nI (reL t q l)) → NodeIs W7 bad t.vars (.pointer np) Cr))
                case first =>
                  refine wp_region_G 7 (fun w' => w'.cell? ⟨w.heap.size + 1, 0, none⟩ = some (.int .i64 q) ∧ w'.cell? ⟨w.heap.size, 0, none⟩ = some (.pointer (some ⟨G, 0, none⟩))) (by kernel_rfl) (HS17.out _ (by repeat (first | exact Below.refl _ _ | refine below_dN ?_ _ | refine Below.drew ?_ | refine Below.alloc ?_ (by first | omega | (simp; done) | (simp; omega)) _ | refine Below.setCell ?_ (by first | omega | (simp; done) | (simp; omega)) _ | refine below_step (by assumption) (by first | omega | (simp; done) | (simp; omega)) ?_))) ?_
                  intro hG0
                  refine wpS2 0 hG0 ?_; intro hG1; clear hG0
                  refine wpS2 1 hG1 ?_; intro hG2; clear hG1
                  refine wpS1 2 hG2 ?_; intro hG3; clear hG2
                  refine wpS2 3 hG3 ?_; intro hG4; clear hG3
                  refine wpS1 4 hG4 ?_; intro hG5; clear hG4
                  refine wpAnyG_ready (rs := [5]) (by kernel_rfl) (by simp) (AllG.cons rfl hG5 (fun K hK => ?_) AllG.nil)
                  (go_simp; go_at_call 33; refine (HKR.out W6.drew (by repeat (first | exact Below.refl _ _ | refine below_dN ?_ _ | refine Below.drew ?_ | refine Below.alloc ?_ (by first | omega | (simp; done) | (simp; omega)) _ | refine Below.setCell ?_ (by first | omega | (simp; done) | (simp; omega)) _ | refine below_step (by assumption) (by first | omega | (simp; done) | (simp; omega)) ?_))).mono ?_; rintro e w7 ⟨⟨np, Cr, rfl, hpm, htr⟩, hb7⟩; have HPM := Lib.hid hpm; have HTR := Lib.hid htr; have HB7 := Lib.hid (show Below W6.heap.size W6 w7 from ⟨hb7.os, hb7.tape, hb7.output, hb7.size, hb7.block⟩); clear hpm htr hb7)
                  refine hK.out _ _ (Or.inr (HS17.out _ HB7.out)) (fun hG6 => wpN ?_); clear hK hG5
                  refine wpS1 6 hG6 ?_; intro hG7; clear hG6
                  refine wpAnyG_ready (rs := [7]) (by kernel_rfl) (by simp) (AllG.cons rfl hG7 (fun K hK => ?_) AllG.nil)
                  (go_simp)
                  refine hK.out _ _ (Or.inl rfl) (fun hG8 => wpN ?_); clear hK hG7
                  refine wpS1 8 hG8 ?_; intro hG9; clear hG8
                  refine wpAnyG_done (by kernel_rfl) ?_ _; clear hG9
                  go_wp2
                  go_meet
                  exact ⟨w7, np, Cr, rfl, HB7.out.size, by simp, by simp, HB7, Lib.hid (by repeat (first | exact Below.refl _ _ | refine below_dN ?_ _ | refine Below.drew ?_ | refine Below.alloc ?_ (by first | omega | (simp; done) | (simp; omega)) _ | refine Below.setCell ?_ (by first | omega | (simp; done) | (simp; omega)) _ | refine below_step (by assumption) (by first | omega | (simp; done) | (simp; omega)) ?_)), Lib.hid (BxI.new w7 _ _), HPM, HTR⟩
                case rest =>
                obtain ⟨W7, np, Cr, rfl, hz67, hz7, hz7', HB67, HB7, HNB, HPM, HTR⟩ := hcut
                obtain ⟨W8, rfl⟩ : ∃ W8, W8 = wc := ⟨_, rfl⟩
                have HF8 := Lib.hid ((HF.out.up HB67.out).kb (Kb.of_below (bad := fun _ => False) HB7.out) (fun _ _ _ _ h => h))
                have HY8 := Lib.hid ((HYR.out.up HB67.out).up HB7.out)
                have HXV8 := Lib.hid ((HXVr.out.up HB67.out).up HB7.out)
                have HXG8 := Lib.hid ((HXGr.out.up HB67.out).up HB7.out)
                have HE8 := Lib.hid ((HER.out.trans (HB67.out.mono HER.out.size)).trans (HB7.out.mono (Nat.le_trans HER.out.size hz67)))
                have hw6 := HER.out.size
                have HF8lt := Lib.hid (show ∀ j, j < k + 1 → ∀ b, (vs j).ownBlock = some b → W5.heap.size ≤ b ∧ b < W7.heap.size from fun j hj b hb => ⟨((HF.out.own j hj).lt b hb).1, Nat.lt_of_lt_of_le ((HF.out.own j hj).lt b hb).2 hz67⟩)
                obtain ⟨ix, px1, px2, px3, px4⟩ := info_parts nd_inf
                go_wp2_with fail
                go_loopw [96] (fun v96 wr => ∃ (x : Nat) (VA : Option Addr) (VC : Nat) (Pl : List Value) (Cs : Nat → List Int → List Int), v96 = .int .i64 x ∧ x ≤ k ∧ Hid (BxI wr W7.heap.size 130 #[.slice none 0 0, .bool false, .int .i64 q, .slice VA x VC, .pointer np]) ∧ Hid (wr.ownsRow (W7.heap.size + 1) 80 1 (.slice VA x VC) x Pl) ∧
                  Hid (∀ s, StP t.vars s → ∀ y : Nat, y < x → (Cs y s).Perm (nI (appV t (q + 1) s (byL t q l (y : Int))))) ∧ Hid (∀ bad : Nat → Prop, (∀ b, w.heap.size ≤ b → b < wr.heap.size → ¬ bad b) → ∀ y, y < x → NodeIs wr (fun b => bad b ∨ b = W7.heap.size ∨ (Value.slice VA x VC).ownBlock = some b) t.vars (Pl.getD y undef) (Cs y)) ∧ Hid (Kb (fun b => b = W7.heap.size) W8 wr)) (fun v _ => k - (RowKit.intOf v).toNat)
                case atStart => exact ⟨0, none, 0, [], fun _ _ => [], rfl, Nat.zero_le _, HNB, Lib.hid (World.ownsRow_nil _ _ _ _), Lib.hid (fun s hs y hy => absurd hy (Nat.not_lt_zero _)), Lib.hid (fun bad hb y hy => absurd hy (Nat.not_lt_zero _)), Lib.hid (Kb.refl _ _)⟩
                case round =>
                  obtain ⟨x, VA, VC, Pl, Cs, rfl, hx, HNR, HVO, HCP, HNS, HK8⟩ := hrel
                  have hz8r := HK8.out.size
                  have HFr := Lib.hid (HF8.out.kb HK8.out (fun j hj b hb e => by have := (HF8lt.out j hj b hb).2; omega))
                  have HYr := Lib.hid (HY8.out.kb HK8.out (by have := HYR.out.lt; omega))
                  have HXVs := Lib.hid (HXV8.out.kb HK8.out (by have := HXVr.out.lt; omega))
                  have HXGs := Lib.hid (HXG8.out.kb HK8.out (by have := HXGr.out.lt; omega))
                  have HEr := Lib.hid (below_then HE8.out HK8.out (fun b hb h => by omega) HE8.out.size)
                  have hgr9 := Lib.hid (HG.out.up HEr.out)
                  have hwr := HEr.out.size
                  have hVlt := Lib.hid (fun b hb => HVO.out.lt b hb)
                  by_cases hltx : x < k
                  · obtain ⟨wt6, rfl⟩ : ∃ wt6 : World, wt6 = wr := ⟨_, rfl⟩
                    obtain ⟨xA, xC, hxs⟩ := own_shape (HFr.out.own x (by omega))
                    have HOX := Lib.hid (HFr.out.own x (by omega))
                    rw [hxs, HBX.out x hltx] at HOX
                    rw [HBX.out x hltx] at hxs
                    obtain ⟨xn, hxn⟩ : ∃ xn, xn = (byL t q l (x : Int)).length := ⟨_, rfl⟩
                    have hxnl : xn ≤ l.length := by rw [hxn]; exact List.length_filter_le _ _
                    have HXN := Lib.hid hxn
                    have hIKx : ∀ bad : Nat → Prop, (∀ b, (Value.slice xA xn xC).ownBlock = some b → ¬ bad b) → IntK wt6 bad xA (nI (byL t q l (x : Int))) := fun bad hb => own_intk2 (c := xC) (by rw [nI_len]; exact HOX.out) (by rw [nI_len]; omega) (by rw [nI_len, ← hxn]; exact hb)
                    have HIX := Lib.hid hIKx
                    have KX : ∀ W, Below wt6.heap.size wt6 W → Calls Tryz.prog 33 #[.pointer (some ⟨G, 0, none⟩), .slice xA xn xC, .int .i64 ((q : Int) + 1)] W fun e w' => BuR t (byL t q l (x : Int)) (q + 1) xA W e w' ∧ Below W.heap.size W w' := fun W kb => by
                      rw [hxn]
                      exact HIH.out (d - 1) (by omega) t p G root (byL t q l (x : Int)) xA xC (q + 1) W (by omega) (by omega) (hgr9.out.up kb) HR.out ((hIKx (fun _ => False) (fun _ _ h => h)).at_.up kb) (by omega) (fun o ho => HOP.out o (List.mem_filter.1 ho).1)
                    rw [← hxn] at hxs HOX
                    have HKX := Lib.hid KX
                    have d0 := HYr.out.cell x _ (by rw [tabC_get hltx, hxs])
                    have hXlt := Lib.hid (show ∀ b, (Value.slice xA xn xC).ownBlock = some b → W5.heap.size ≤ b ∧ b < W7.heap.size from fun b hb => HF8lt.out x (by omega) b (by rw [hxs]; exact hb))
                    have HS21 := Lib.hid (show ∀ w' : World, Below wt6.heap.size wt6 w' → w'.cell? ⟨w.heap.size + 1, 0, none⟩ = some (.int .i64 q) ∧ w'.cell? ⟨w.heap.size, 0, none⟩ = some (.pointer (some ⟨G, 0, none⟩)) ∧ w'.cell? ⟨W7.heap.size, 3, none⟩ = some (.slice VA x VC) from fun w' hb => ⟨(HXVs.out.up hb).cell 0 _ rfl, (HXGs.out.up hb).cell 0 _ rfl, (HNR.out.up hb).cell 3 _ rfl⟩)
                    clear KX hIKx hxn hxs
                    go_wp2_with fail
                    clear d0
                    refine wp_region_G 11 (fun w' => w'.cell? ⟨w.heap.size + 1, 0, none⟩ = some (.int .i64 q) ∧ w'.cell? ⟨w.heap.size, 0, none⟩ = some (.pointer (some ⟨G, 0, none⟩)) ∧ w'.cell? ⟨W7.heap.size, 3, none⟩ = some (.slice VA x VC)) (by kernel_rfl) (HS21.out _ (by repeat (first | exact Below.refl _ _ | refine below_dN ?_ _ | refine Below.drew ?_ | refine Below.alloc ?_ (by first | omega | (simp; done) | (simp; omega)) _ | refine Below.setCell ?_ (by first | omega | (simp; done) | (simp; omega)) _ | refine below_step (by assumption) (by first | omega | (simp; done) | (simp; omega)) ?_))) ?_
                    intro hG0
                    refine wpS1 0 hG0 ?_; intro hG1; clear hG0
                    refine wpS1 1 hG1 ?_; intro hG2; clear hG1
                    refine wpS1 2 hG2 ?_; intro hG3; clear hG2
                    refine wpS1 3 hG3 ?_; intro hG4; clear hG3
                    refine wpS2 4 hG4 ?_; intro hG5; clear hG4
                    refine wpS2 5 hG5 ?_; intro hG6; clear hG5
                    refine wpS1 6 hG6 ?_; intro hG7; clear hG6
                    refine wpS2 7 hG7 ?_; intro hG8; clear hG7
                    refine wpS1 8 hG8 ?_; intro hG9; clear hG8
                    refine wpAnyG_ready (rs := [9]) (by kernel_rfl) (by simp) (AllG.cons rfl hG9 (fun K hK => ?_) AllG.nil)
                    (go_simp; go_at_call 33; refine (HKX.out wt6.drew (by repeat (first | exact Below.refl _ _ | refine below_dN ?_ _ | refine Below.drew ?_ | refine Below.alloc ?_ (by first | omega | (simp; done) | (simp; omega)) _ | refine Below.setCell ?_ (by first | omega | (simp; done) | (simp; omega)) _ | refine below_step (by assumption) (by first | omega | (simp; done) | (simp; omega)) ?_))).mono ?_; rintro e w9 ⟨⟨np9, C9, rfl, hpm9, htr9⟩, hb9⟩; have HPM9 := Lib.hid hpm9; have HTR9 := Lib.hid htr9; have HB9 := Lib.hid (show Below wt6.heap.size wt6 w9 from ⟨hb9.os, hb9.tape, hb9.output, hb9.size, hb9.block⟩); have hz9 := HB9.out.size; have HVO9 := Lib.hid (own_kb1 HVO.out (Kb.of_below (bad := fun _ => False) HB9.out) (fun _ _ h => h)); have HN9 := Lib.hid (HNR.out.up HB9.out); clear hpm9 htr9 hb9)
                    refine hK.out _ _ (Or.inr (HS21.out _ HB9.out)) (fun hG10 => wpN ?_); clear hK hG9
                    refine wpAnyG_ready (rs := [10]) (by kernel_rfl) (by simp) (AllG.cons rfl hG10 (fun K hK => ?_) AllG.nil)
                    (go_simp)
                    refine hK.out _ _ (Or.inr (HS21.out _ (HB9.out.trans (Below.mono (by repeat (first | exact Below.refl _ _ | refine below_dN ?_ _ | refine Below.drew ?_ | refine Below.alloc ?_ (by first | omega | (simp; done) | (simp; omega)) _ | refine Below.setCell ?_ (by first | omega | (simp; done) | (simp; omega)) _ | refine below_step (by assumption) (by first | omega | (simp; done) | (simp; omega)) ?_)) HB9.out.size)))) (fun hG11 => wpN ?_); clear hK hG10
                    refine wpAnyG_ready (rs := [11]) (by kernel_rfl) (by simp) (AllG.cons rfl hG11 (fun K hK => ?_) AllG.nil)
                    (refine step_append_src (by rfl) _ _ 128 (by rfl) (W7.heap.size + 1) 80 ix (.pointer none) 1 8 nd_ptr px1 px2 px3 px4 rfl (by decide) (.slice VA x VC) x Pl (by rfl) (by exact HVO9.out.alloc _) (some ⟨w9.heap.size, 0, none⟩) 1 1 [.pointer np9] (by rfl) (src_of (heap_alloc_new w9 _) rfl (by intro u hu; simp at hu; subst hu; rfl)) (by unfold maxLen; omega) (by omega) (by first | omega | (simp; done) | (simp; omega)) ?_; intro v13 w13 hown13 hgrow13 hat13; obtain ⟨A13, c13, rfl⟩ := own_shape hown13; have HO13 := Lib.hid hown13; have HG13 := Lib.hid hgrow13; have HA13 := Lib.hid hat13; have HN13 := Lib.hid ((HN9.out.up (show Below w9.heap.size w9 _ by repeat (first | exact Below.refl _ _ | refine below_dN ?_ _ | refine Below.drew ?_ | refine Below.alloc ?_ (by first | omega | (simp; done) | (simp; omega)) _ | refine Below.setCell ?_ (by first | omega | (simp; done) | (simp; omega)) _ | refine below_step (by assumption) (by first | omega | (simp; done) | (simp; omega)) ?_))).grown hgrow13 (fun e => by have := (hVlt.out _ e.symm).1; omega)); clear hown13 hgrow13 hat13)
                    refine hK.out _ _ (Or.inl rfl) (fun hG12 => wpN ?_); clear hK hG11
                    refine wpS1 12 hG12 ?_; intro hG13; clear hG12
                    refine wpS1 13 hG13 ?_; intro hG14; clear hG13
                    refine wpAnyG_ready (rs := [14]) (by kernel_rfl) (by simp) (AllG.cons rfl hG14 (fun K hK => ?_) AllG.nil)
                    (refine step_store1 (by rfl) 128 _ _ (by rfl) W7.heap.size 3 (.slice A13 (x + 1) c13) (by rfl) (by rfl) (by rfl) (there_blk HN13.out (by simp)) (by kernel_rfl) rfl ?_; intro wy HWY)
                    refine hK.out _ _ (Or.inl rfl) (fun hG15 => wpN ?_); clear hK hG14
                    refine wpAnyG_done (by kernel_rfl) ?_ _; clear hG15
                    go_wp2
                    go_roundw
                    case rel =>
                      have hg13 : (w9.alloc (.cells #[.pointer np9] 80)).grownBy w13 (Value.slice VA x VC).ownBlock := ⟨HG13.out.os, HG13.out.tape, HG13.out.output, HG13.out.size, HG13.out.block⟩
                      have KG : Kb (fun b => (Value.slice VA x VC).ownBlock = some b) w9 w13 := (kb_alloc w9 _ _).trans (kb_grown hg13)
                      have KY := kb_set (w := w13) (p := ⟨W7.heap.size, 3, none⟩) (.slice A13 (x + 1) c13)
                      have BY := HN13.out.set 3 (.slice A13 (x + 1) c13)
                      rw [← HWY.out] at KY BY
                      have KK : Kb (fun b => (Value.slice VA x VC).ownBlock = some b ∨ b = W7.heap.size) w9 wy := (KG.mono (fun b _ h => .inl h)).trans (KY.mono (fun b _ h => .inr h))
                      have hs9 : (w9.alloc (.cells #[.pointer np9] 80)).heap.size = w9.heap.size + 1 := by simp
                      have hat : ∀ b, (Value.slice A13 (x + 1) c13).ownBlock = some b → (Value.slice VA x VC).ownBlock = some b ∨ w9.heap.size ≤ b := fun b hb => by
                        rcases HA13.out with h1 | h1
                        · exact .inl (h1 ▸ hb)
                        · rw [h1] at hb; injection hb with hb; exact .inr (by omega)
                      have hsy : wt6.heap.size ≤ wy.heap.size := Nat.le_trans HB9.out.size KK.size
                      have MV : ∀ bad : Nat → Prop, Moves w9 wy (fun b => bad b ∨ b = W7.heap.size ∨ (Value.slice VA x VC).ownBlock = some b) (fun b => bad b ∨ b = W7.heap.size ∨ (Value.slice A13 (x + 1) c13).ownBlock = some b) := fun bad => Moves.of_kb KK (fun b _ h => .inr h.symm) (fun b hb h => by
                        rcases h with h | h | h
                        · exact .inl h
                        · exact .inr (.inl h)
                        · rcases hat b h with h | h
                          · exact .inr (.inr h)
                          · omega)
                      have hPl : Pl.length = x := by have := HVO.out.1; omega
                      refine ⟨x + 1, A13, c13, Pl ++ [.pointer np9], upd Cs x C9, rfl, by omega, Lib.hid BY, Lib.hid (own_kb1 HO13.out KY (fun b hb e => by have h1 := (HO13.out.lt b hb).1; have e : b = W7.heap.size := e; omega)), Lib.hid (fun s hs y hy => ?_), Lib.hid (fun bad hbad y hy => ?_), Lib.hid (((HK8.out.up HB9.out).then_ KK (fun b hb h => by
                        rcases h with h | h
                        · have := (hVlt.out b h).1; omega
                        · exact h)))⟩
                      · by_cases e : y = x
                        · subst e; rw [upd_at]; exact HPM9.out s hs
                        · rw [upd_ne _ _ e]; exact HCP.out s hs y (by omega)
                      · by_cases e : y = x
                        · subst e
                          rw [upd_at, show (Pl ++ [Value.pointer np9]).getD y undef = .pointer np9 by simp [List.getD, ← hPl]]
                          refine (HTR9.out _ (fun b h1 h2 h3 => ?_) (HIX.out _ (fun b hb h3 => ?_))).move (MV bad)
                          · have h1 : wt6.heap.size ≤ b := h1
                            rcases h3 with h3 | h3 | h3
                            · exact hbad b (by omega) (Nat.lt_of_lt_of_le h2 KK.size) h3
                            · omega
                            · have := (hVlt.out b h3).2; omega
                          · have h4 := hXlt.out b hb
                            rcases h3 with h3 | h3 | h3
                            · exact hbad b (by omega) (by omega) h3
                            · omega
                            · have := (hVlt.out b h3).1; omega
                        · rw [upd_ne _ _ e, show (Pl ++ [Value.pointer np9]).getD y undef = Pl.getD y undef by simp [List.getD, List.getElem?_append_left (show y < Pl.length by omega)]]
                          exact ((HNS.out bad (fun b h1 h2 => hbad b h1 (by omega)) y (by omega)).move (Moves.up HB9.out)).move (MV bad)
                    case measure => simp [RowKit.intOf]; omega
                  · obtain rfl : x = k := by omega
                    go_wp2_with fail
                    refine bodyPost_ret (v := .pointer (some ⟨W7.heap.size, 0, none⟩)) (by simp [results, Tryz.results33, go_sem, ↓IntWalk.iteOmega, *]) rfl ⟨⟨_, fun s => Cs (nth s q).toNat s ++ Cr s, rfl, fun s hs => ?_, fun bad hbad hK => ?_⟩, HEr.out⟩
                    · have h1 := hs.2 q (by rw [hs.1]; exact hlt)
                      rw [HKQ.out] at h1
                      have h2 := HCP.out s hs (nth s q).toNat (by omega)
                      rw [show (((nth s q).toNat : Nat) : Int) = nth s q by omega] at h2
                      have h3 := (h2.append (HPM.out s hs))
                      rw [← nI_app] at h3
                      refine h3.trans ?_
                      rw [appV_skips (q - v) (fun j h1 h2 => HNO.out j h1 (by omega)), show v + (q - v) = q by omega]
                      exact nI_perm (appV_part HR.out HOP.out)
                    · have hkt : (nth t.vars q).toNat = x := by rw [HKQ.out]; omega
                      obtain ⟨VB, rfl, hV1, hV2, _⟩ := own_frozen' HVO.out (by omega)
                      refine .node W7.heap.size VB q VC (fun y => Pl.getD y undef) Cs (.pointer np) Cr HNR.out.lt (hbad _ (by omega) HNR.out.lt) (by rw [hkt]; exact HNR.out) hlt hV2 (hbad _ (by omega) hV2) (fun y hy => ?_) (fun y hy => ?_) ?_
                      · have hy : y < x := by omega
                        have hPl : Pl.length = x := by have := HVO.out.1; omega
                        exact own_cell HVO.out (by simp [List.getD, hPl, hy])
                      · exact (HNS.out bad hbad y (by omega)).move (Moves.mono (fun b _ h => .inl h))
                      · have hsz : W7.heap.size ≤ wr.heap.size := by omega
                        refine (HTR.out (fun b => bad b ∨ W7.heap.size ≤ b) (fun b h1 h2 h3 => ?_) (HIR.out _ (fun b hb h3 => ?_))).move ?_
                        · rcases h3 with h3 | h3
                          · exact hbad b (by omega) (by omega) h3
                          · omega
                        · have h4 := HOR.out.lt b hb
                          rcases h3 with h3 | h3
                          · exact hbad b (by omega) (by omega) h3
                          · omega
                        · exact Moves.of_kb (((Kb.of_below (bad := fun b => b = W7.heap.size) HB7.out)).trans HK8.out) (fun b _ h => by have h : b = W7.heap.size := h; exact .inr (by omega)) (fun b _ h => .inl h)
      · obtain rfl : q = t.vars.length := by omega
        have y0 := HXV.out.cell 0 _ rfl
        have y1 := HXG.out.cell 0 _ rfl
        have y2 := hgr.out.box.cell 0 _ rfl
        have hd1 : decide ((t.vars.length : Int) < (t.vars.length : Int)) = false := decide_eq_false (by omega)
        go_wp2_with fail
        go_quiet (fail)
        go_wp2_with fail
        go_quiet (fail)
        go_wp2_with fail
        refine bodyPost_ret (v := .pointer (some ⟨wt.heap.size, 0, none⟩)) (by simp [results, Tryz.results33, go_sem, ↓IntWalk.iteOmega, *]) rfl ⟨⟨_, fun _ => nI l, rfl, fun s hs => ?_, fun bad hbad hK => ?_⟩, HE.out.trans (Below.mono (by repeat (first | exact Below.refl _ _ | refine below_dN ?_ _ | refine Below.drew ?_ | refine Below.alloc ?_ (by first | omega | (simp; done) | (simp; omega)) _ | refine Below.setCell ?_ (by first | omega | (simp; done) | (simp; omega)) _ | refine below_step (by assumption) (by first | omega | (simp; done) | (simp; omega)) ?_)) hzr)⟩
        · rw [appV_skips (t.vars.length - v) (fun j h1 h2 => HNO.out j h1 (by omega)), appV_end HR.out HOP.out (by omega)]
        · refine .leaf wt.heap.size A c (nI l) (by simp) (hbad _ hzr (by simp)) ?_ (by rw [nI_len]; exact hlp) (hK.move ⟨?_, fun b h1 _ => ?_, fun b _ h => h⟩)
          · rw [nI_len]
            exact BxI.new _ _ _
          · simp; omega
          · exact ((show Below wt.heap.size wt _ by repeat (first | exact Below.refl _ _ | refine below_dN ?_ _ | refine Below.drew ?_ | refine Below.alloc ?_ (by first | omega | (simp; done) | (simp; omega)) _ | refine Below.setCell ?_ (by first | omega | (simp; done) | (simp; omega)) _ | refine below_step (by assumption) (by first | omega | (simp; done) | (simp; omega)) ?_)).block b (Nat.lt_of_lt_of_le h1 hzr)).trans (HE.out.block b h1)
end Go.Proofs.YtpobnjbpglaohaaGreat
