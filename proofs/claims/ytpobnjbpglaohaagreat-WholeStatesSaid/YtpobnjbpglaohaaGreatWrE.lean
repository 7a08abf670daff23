/- succgen: New, walked. -/
import Derived.Test.YtpobnjbpglaohaaGreatWrD
import Derived.Test.YtpobnjbpglaohaaGreatWqB
import Derived.Test.YtpobnjbpglaohaaGreatWgB
namespace Go.Proofs.YtpobnjbpglaohaaGreat
set_option linter.unusedSimpArgs false
set_option linter.unusedVariables false
open Go Go.RowKit
set_option linter.unusedVariables false

/-- A generator of t. -/
def GenAt (w : World) (G : Nat) (t : Tsk) : Prop := ∃ p np C, GnAt w G t p (.pointer np) ∧ NodeIs w (fun _ => False) t.vars (.pointer np) C ∧ ∀ s, StP t.vars s → (C s).Perm (nI (ops1 t s))
theorem GenAt.up {w w' : World} {G : Nat} {t : Tsk} (h : GenAt w G t) (k : Below w.heap.size w w') : GenAt w' G t := by
  obtain ⟨p, np, C, h1, h2, h3⟩ := h
  exact ⟨p, np, C, h1.up k, h2.move (Moves.up k), h3⟩
theorem nI_range_succ (n : Nat) : ic (nI (List.range n)) ++ [.int .i64 (n : Nat)] = ic (nI (List.range (n + 1))) := by
  rw [List.range_succ, icn_push]
theorem ops1_all {t : Tsk} (hr : Right t) {s : List Int} (hs : StP t.vars s) : appV t 0 s (List.range t.ops.length) = ops1 t s := by
  unfold appV ops1
  apply List.filter_congr
  intro k hk
  exact fit_zero (hr.pre k (List.mem_range.1 hk)) hs
theorem chk_erV {t : Tsk} (h : chkC t = 0) : erV (chkC t) = .nilIface := by rw [h]; rfl

set_option maxRecDepth 20000 in
set_option maxHeartbeats 8000000 in
theorem gnew_any (t : Tsk) (p : Lies) (w : World) (ht : TaskAt w w.heap.size t p) (hr : Right t) (hc : chkC t = 0) :
    Calls Tryz.prog 7 #[TaskV t p] w fun e w' => (∃ G, e = .returned (.tuple #[.pointer (some ⟨G, 0, none⟩), .nilIface]) ∧ GenAt w' G t) ∧ Below w.heap.size w w' := by
  obtain ⟨ii, hi1, iq0, iq1, iq2⟩ := info_parts infoI
  have KC := Lib.hid (fun W (k : Below w.heap.size w W) => chk_erV hc ▸ tcheck_any t p W (ht.up k))
  have KD := Lib.hid (fun W (k : Below w.heap.size w W) => scopied_any t p W (ht.up k) hr)
  have HRT := Lib.hid hr
  have hoo := hr.no
  clear ht hr hc
  obtain ⟨pav, pai, pag, pao, pcv, pci, pcg, pco⟩ := p
  unfold TaskV at KC KD
  unfold TaskV
  dsimp only at KC KD
  dsimp only
  go_enter Tryz.func7, Tryz.ntmps7
  go_wp2_with fail
  refine (KC.out _ (by repeat (first | exact Below.refl _ _ | refine below_dN ?_ _ | refine Below.drew ?_ | refine Below.alloc ?_ (by first | omega | (simp; done) | (simp; omega)) _ | refine Below.setCell ?_ (by first | omega | (simp; done) | (simp; omega)) _ | refine below_step (by assumption) (by first | omega | (simp; done) | (simp; omega)) ?_))).mono ?_
  rintro e w1 ⟨rfl, hb1⟩
  have HB1 := Lib.hid (show Below w.heap.size w w1 from below_step hb1 (show w.heap.size ≤ _ by simp) (show Below w.heap.size w _ by repeat (first | exact Below.refl _ _ | refine below_dN ?_ _ | refine Below.drew ?_ | refine Below.alloc ?_ (by first | omega | (simp; done) | (simp; omega)) _ | refine Below.setCell ?_ (by first | omega | (simp; done) | (simp; omega)) _ | refine below_step (by assumption) (by first | omega | (simp; done) | (simp; omega)) ?_)))
  have hz1 := HB1.out.size
  have hX1 := Lib.hid ((BxI.new w 26 #[.slice pav t.vars.length pcv, .slice pai t.init.length pci, .slice pag t.goal.length pcg, .slice pao t.ops.length pco]).up hb1)
  have x0 := hX1.out.cell 0 _ rfl
  have x1 := hX1.out.cell 1 _ rfl
  have x2 := hX1.out.cell 2 _ rfl
  have x3 := hX1.out.cell 3 _ rfl
  clear hb1
  go_wp2_with fail
  refine (KD.out _ (HB1.out.trans (Below.mono (by repeat (first | exact Below.refl _ _ | refine below_dN ?_ _ | refine Below.drew ?_ | refine Below.alloc ?_ (by first | omega | (simp; done) | (simp; omega)) _ | refine Below.setCell ?_ (by first | omega | (simp; done) | (simp; omega)) _ | refine below_step (by assumption) (by first | omega | (simp; done) | (simp; omega)) ?_)) hz1))).mono ?_
  rintro e w3 ⟨⟨q, rfl, htq⟩, hb3⟩
  have HB3 := Lib.hid (show Below w.heap.size w w3 from HB1.out.trans (Below.mono (below_step hb3 (show w1.heap.size ≤ _ by simp) (show Below w1.heap.size w1 _ by repeat (first | exact Below.refl _ _ | refine below_dN ?_ _ | refine Below.drew ?_ | refine Below.alloc ?_ (by first | omega | (simp; done) | (simp; omega)) _ | refine Below.setCell ?_ (by first | omega | (simp; done) | (simp; omega)) _ | refine below_step (by assumption) (by first | omega | (simp; done) | (simp; omega)) ?_))) hz1))
  have hz3 := HB3.out.size
  obtain ⟨qav, qai, qag, qao, qcv, qci, qcg, qco⟩ := q
  dsimp only
  have HTQ := Lib.hid (htq w3 (Kb.refl _ _))
  clear htq hb3 x0 x1 x2 x3
  go_upto_region 6 with fail
  obtain ⟨w4, hw4⟩ : ∃ W, W = w3.alloc (.cells #[.slice qav t.vars.length qcv, .slice qai t.init.length qci, .slice qag t.goal.length qcg, .slice qao t.ops.length qco, .pointer none] 82) := ⟨_, rfl⟩
  rw [← hw4]
  have HX4 := Lib.hid (show BxI w4 w3.heap.size 82 #[.slice qav t.vars.length qcv, .slice qai t.init.length qci, .slice qag t.goal.length qcg, .slice qao t.ops.length qco, .pointer none] by rw [hw4]; exact BxI.new _ _ _)
  have HB34 := Lib.hid (show Below w3.heap.size w3 w4 by rw [hw4]; exact (Below.refl _ _).alloc (Nat.le_refl _) _)
  have HT4 := Lib.hid (HTQ.out.keep (w' := w4) (B' := w3.heap.size) (fun q hq => HB34.out.cell hq) (Nat.le_refl _))
  have HB4 := Lib.hid (HB3.out.trans (HB34.out.mono hz3))
  have hz4 : w3.heap.size + 1 ≤ w4.heap.size := by rw [hw4]; simp
  have x3 := HX4.out.cell 3 _ rfl
  clear hw4
  go_wp2_with fail
  clear x3
  go_loopw [6, 23] (fun v6 v23 wr => ∃ (i : Nat) (AA : Option Addr) (AC : Nat), v6 = .slice AA i AC ∧ v23 = .int .i64 i ∧ i ≤ t.ops.length ∧ Hid (wr.ownsRow w4.heap.size 3 1 (.slice AA i AC) i (ic (nI (List.range i)))) ∧ Hid (Below w4.heap.size w4 wr)) (fun _ v _ => t.ops.length - (RowKit.intOf v).toNat)
  case atStart => exact ⟨0, none, 0, rfl, rfl, Nat.zero_le _, Lib.hid (World.ownsRow_nil _ _ _ _), Lib.hid (Below.refl _ _)⟩
  case round =>
    obtain ⟨i, AA, AC, rfl, rfl, hi, HO, HE⟩ := hrel
    have hzr := HE.out.size
    by_cases hlt : i < t.ops.length
    · obtain ⟨wt, rfl⟩ : ∃ wt : World, wt = wr := ⟨_, rfl⟩
      go_wp2_with (at_builtin; refine wpList_append_src (by rfl) _ _ 22 (by rfl) w4.heap.size 3 ii (.int .i64 0) 1 8 undI hi1 iq0 iq1 iq2 rfl (by decide) (.slice AA i AC) i (ic (nI (List.range i))) (by rfl) (by exact HO.out.alloc _) (some ⟨wt.heap.size, 0, none⟩) 1 1 [.int .i64 (i : Nat)] (by rfl) (src_of (heap_alloc_new wt _) rfl (by intro u hu; simp at hu; subst hu; rfl)) (by unfold maxLen; omega) (by omega) (by first | omega | (simp; done) | (simp; omega)) ?_; intro v9 w9 hown9 hgrow9 hat9; obtain ⟨A9, c9, rfl⟩ := own_shape hown9; have HO9 := Lib.hid hown9; have HG9 := Lib.hid hgrow9; clear hown9 hgrow9 hat9)
      go_roundw
      case rel => exact ⟨i + 1, A9, c9, rfl, rfl, by omega, Lib.hid (by rw [← nI_range_succ]; exact HO9.out), Lib.hid ((HE.out.alloc hzr _).grown HG9.out (by simp; omega) (fun b hb => (HO.out.lt b hb).1))⟩
      case measure => simp [RowKit.intOf]; omega
    · obtain rfl : i = t.ops.length := by omega
      obtain ⟨wt, rfl⟩ : ∃ wt : World, wt = wr := ⟨_, rfl⟩
      have HXr := Lib.hid (HX4.out.up HE.out)
      have hTr := HT4.out.keep (w' := wt) (B' := wt.heap.size) (fun q hq => HE.out.cell (by omega)) (by omega)
      have HGr := Lib.hid (show GnAt wt w3.heap.size t ⟨qav, qai, qag, qao, qcv, qci, qcg, qco⟩ (.pointer none) from ⟨HXr.out, hTr⟩)
      have hIK : IntK wt (fun b => b = w3.heap.size) AA (nI (List.range t.ops.length)) := own_intk2 (c := AC) (by rw [nI_len, List.length_range]; exact HO.out) (by rw [nI_len, List.length_range]; omega) (by rw [nI_len, List.length_range]; intro g hg e; have := (HO.out.lt g hg).1; omega)
      have KB : ∀ W, Below wt.heap.size wt W → Calls Tryz.prog 33 #[.pointer (some ⟨w3.heap.size, 0, none⟩), .slice AA t.ops.length AC, .int .i64 0] W fun e w' => BuR t (List.range t.ops.length) 0 AA W e w' ∧ Below W.heap.size W w' := fun W kb => by
        have := build_any t.vars.length t ⟨qav, qai, qag, qao, qcv, qci, qcg, qco⟩ w3.heap.size (.pointer none) (List.range t.ops.length) AA AC 0 W (by omega) (Nat.zero_le _) (HGr.out.up kb) HRT.out (hIK.at_.up kb) (by rw [List.length_range]; omega) (fun k hk => List.mem_range.1 hk)
        rw [List.length_range] at this
        exact this
      have HKB := Lib.hid KB
      have HIK := Lib.hid hIK
      clear KB hIK hTr
      go_wp2_with fail
      refine (HKB.out _ (by repeat (first | exact Below.refl _ _ | refine below_dN ?_ _ | refine Below.drew ?_ | refine Below.alloc ?_ (by first | omega | (simp; done) | (simp; omega)) _ | refine Below.setCell ?_ (by first | omega | (simp; done) | (simp; omega)) _ | refine below_step (by assumption) (by first | omega | (simp; done) | (simp; omega)) ?_))).mono ?_
      rintro e w5 ⟨⟨np, C, rfl, hpm, htr⟩, hb5⟩
      have HB5 := Lib.hid (show Below wt.heap.size wt w5 from below_step hb5 (show wt.heap.size ≤ _ by simp) (show Below wt.heap.size wt _ by repeat (first | exact Below.refl _ _ | refine below_dN ?_ _ | refine Below.drew ?_ | refine Below.alloc ?_ (by first | omega | (simp; done) | (simp; omega)) _ | refine Below.setCell ?_ (by first | omega | (simp; done) | (simp; omega)) _ | refine below_step (by assumption) (by first | omega | (simp; done) | (simp; omega)) ?_)))
      have hz5 := HB5.out.size
      have HX5 := Lib.hid (HXr.out.up HB5.out)
      have HPM := Lib.hid hpm
      have HTR := Lib.hid (htr (fun b => b = w3.heap.size) (fun b h1 _ h2 => by omega) HIK.out)
      clear hpm htr hb5
      go_wp2_with (refine wpList_store1 (by rfl) 80 _ _ (by rfl) w3.heap.size 4 (.pointer np) (by rfl) (by rfl) (by rfl) (there_blk HX5.out (by simp)) (by kernel_rfl) rfl ?_; intro wy HWY)
      have KY := kb_set (w := w5) (p := ⟨w3.heap.size, 4, none⟩) (.pointer np)
      have BY := HX5.out.set 4 (.pointer np)
      rw [← HWY.out] at KY BY
      have HBY := Lib.hid (below_then (((HB4.out.trans (HE.out.mono HB4.out.size)).trans (HB5.out.mono (by omega)))) KY (fun b hb h => by have h : b = w3.heap.size := h; omega) (by omega))
      have hsy := KY.size
      have hTy := HT4.out.keep (w' := wy) (B' := wy.heap.size) (fun q hq => ((KY.cell (p := q) (by omega) (fun e => by have e : q.block = w3.heap.size := e; omega)).trans ((HE.out.trans (HB5.out.mono hzr)).cell (p := q) (by omega)))) (by omega)
      have HGY := Lib.hid (show GenAt wy w3.heap.size t from ⟨⟨qav, qai, qag, qao, qcv, qci, qcg, qco⟩, np, C, ⟨BY, hTy⟩, HTR.out.move (Moves.of_kb KY (fun b _ h => h) (fun _ _ h => h.elim)), fun s hs => by rw [← ops1_all HRT.out hs]; exact HPM.out s hs⟩)
      clear KY BY hTy
      refine bodyPost_ret (v := .tuple #[.pointer (some ⟨w3.heap.size, 0, none⟩), .nilIface]) (by simp [results, Tryz.results7, go_sem, ↓IntWalk.iteOmega, *]) rfl ⟨⟨_, rfl, HGY.out⟩, HBY.out⟩
end Go.Proofs.YtpobnjbpglaohaaGreat
