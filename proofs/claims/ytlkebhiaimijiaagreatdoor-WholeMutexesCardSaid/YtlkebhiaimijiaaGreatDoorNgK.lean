/- Texts laid together: VbE, VbF, VbG, VbH. -/
import Derived.Test.YtlkebhiaimijiaaGreatDoorBel
import Derived.Test.YtlkebhiaimijiaaGreatDoorNgE
import Derived.Test.YtlkebhiaimijiaaGreatDoorVbD
import Derived.Deep.LoopGhost
import Derived.Deep.DeepCutAuto
import Derived.Test.YtlkebhiaimijiaaGreatDoorNgG
import Derived.Deep.CutBlock
import Derived.Test.YtlkebhiaimijiaaGreatDoorNgB
import Derived.Test.YtlkebhiaimijiaaGreatDoorNgA
namespace Go.Proofs.YtlkebhiaimijiaaGreatDoor
set_option linter.unusedSimpArgs false
set_option linter.unusedVariables false
section
open Go Go.RowKit
set_option linter.unusedVariables false

theorem wi_at : ∀ {p : List Fct} {f : Fct} {i : Nat}, i ≤ p.length → (∀ j, j < i → fv p j < f.1) → (i < p.length → ¬ fv p i < f.1) → wiF p f = p.take i ++ f :: p.drop i
 | [], f, i, h, _, _ => by simp at h; subst h; rfl
 | x :: r, f, 0, _, _, h => by
  have h0 : ¬ x.1 < f.1 := h (by simp)
  unfold wiF
  rw [if_neg h0]; rfl
 | x :: r, f, i + 1, h, hn, he => by
  have h0 : x.1 < f.1 := hn 0 (by omega)
  unfold wiF
  rw [if_pos h0, wi_at (p := r) (i := i) (by simpa using h) (fun j hj => hn (j + 1) (by omega)) (fun hi => he (by simpa using hi))]
  rfl
theorem wi_cells {p : List Fct} {f : Fct} {i : Nat} (hi : i ≤ p.length) (h1 : ∀ j, j < i → fv p j < f.1) (h2 : i < p.length → ¬ fv p i < f.1) :
  (fcs p).take (i * 2) ++ [.int .i64 f.1, .int .i64 f.2] ++ (fcs p).drop (i * 2) = fcs (wiF p f) := by
 rw [wi_at hi h1 h2, fcs_take, fcs_drop, fcs_app, fcs_cons]; simp

/-- What the insertion leaves. -/
def WiRet (w : World) (p : List Fct) (f : Fct) (e : Ending) (w' : World) : Prop := (∃ A' c', e = .returned (.slice A' (p.length + 1) c') ∧ Fac w' (fun b => b < w.heap.size) A' (wiF p f)) ∧ Below w.heap.size w w'

set_option maxRecDepth 20000 in
set_option maxHeartbeats 4000000 in
theorem with_any (p : List Fct) (v x : Int) (A : Option Addr) (c : Nat) (w : World) (h : FactsAt w w.heap.size A p) (hl : p.length ≤ 100000) :
  Calls Tryz.prog 155 #[.slice A p.length c, .agg #[.int .i64 v, .int .i64 x]] w fun e w' => WiRet w p (v, x) e w' := by
 have HP := Lib.hid h
 obtain ⟨W0, hW0⟩ : ∃ W0, W0 = w.alloc (.cells #[.int .i64 v, .int .i64 x] 68) := ⟨_, rfl⟩
 have hz0 : W0.heap.size = w.heap.size + 1 := by rw [hW0]; simp
 have HB0 := Lib.hid (show Below w.heap.size w W0 by rw [hW0]; exact (Below.refl _ _).alloc (Nat.le_refl _) _)
 have HX0 := Lib.hid (show BxI W0 w.heap.size 68 #[.int .i64 v, .int .i64 x] by rw [hW0]; exact BxI.new _ _ _)
 go_enter Tryz.func155, Tryz.ntmps155
 go_wp2
 rw [← hW0]
 have HW0 := Lib.hid hW0
 clear hW0
 go_loopw [5] (fun i wr => ∃ k : Nat, k ≤ p.length ∧ i = .int .i64 k ∧ Hid (∀ j, j < k → fv p j < v) ∧ Hid (Below W0.heap.size W0 wr)) (fun i _ => p.length - (intOf i).toNat)
 case atStart => exact ⟨0, by omega, rfl, Lib.hid (fun j hj => absurd hj (by omega)), Lib.hid (Below.refl _ _)⟩
 case round =>
  obtain ⟨k, hk, rfl, Hok, HE⟩ := hrel
  have hzr := HE.out.size
  have HXr := Lib.hid (HX0.out.up HE.out)
  have x0 := HXr.out.cell 0 (.int .i64 v) rfl
  have x1 := HXr.out.cell 1 (.int .i64 x) rfl
  have hWr := Lib.hid (show Below w.heap.size w wr from HB0.out.trans (HE.out.mono (by omega)))
  by_cases hlt : k < p.length
  ·obtain ⟨b, o, rfl, hb, hc⟩ := HP.out.at_ hlt
   have d1 := (hWr.out.cell (p := ⟨b, o + k * 2, none⟩) hb).trans (hc k hlt).1
   have e0 : decide (k < p.length) = true := by simpa using hlt
   have g2 : b < wr.heap.size := by omega
   clear hc
   by_cases q : fv p k < v
   ·have e1 : decide (fv p k < v) = true := by simpa using q
    go_wp2
    go_quiet (fail)
    go_wp2
    go_roundw
    case rel => exact ⟨k + 1, by omega, by go_num, Lib.hid (fun j hj => by rcases Nat.lt_succ_iff_lt_or_eq.1 hj with h1 | rfl; exact Hok.out j h1; exact q), Lib.hid (HE.out.trans (Below.mono (by exact bel) hzr))⟩
    case measure => simp [intOf]; omega
   ·have e1 : decide (fv p k < v) = false := by simpa using q
    go_wp2
    go_quiet (fail)
    go_wp2
    obtain ⟨wq, hwq⟩ : ∃ wq, wq = wr.drewN nq := ⟨_, rfl⟩
    rw [← hwq]
    have HQ := Lib.hid (show Below w.heap.size w wq by rw [hwq]; exact below_dN hWr.out _)
    have HXq := Lib.hid (show BxI wq w.heap.size 68 #[.int .i64 v, .int .i64 x] by rw [hwq]; exact HXr.out.up (below_dN (Below.refl _ _) _))
    have hzq : w.heap.size < wq.heap.size := HXq.out.lt
    have HS := Lib.hid (fun (W : World) (k : Below wq.heap.size wq W) => (show W.cell? ⟨w.heap.size, 0, none⟩ = some (.int .i64 v) ∧ W.cell? ⟨w.heap.size, 1, none⟩ = some (.int .i64 x) from ⟨(HXq.out.up k).cell 0 _ rfl, (HXq.out.up k).cell 1 _ rfl⟩))
    have HCL := Lib.hid (fun (W : World) (k : Below wq.heap.size wq W) => cloneFac_any p (some ⟨b, o, none⟩) c W (HP.out.up (HQ.out.trans (k.mono HQ.out.size))) (by omega))
    have HWI := Lib.hid (wi_cells (f := (v, x)) hk Hok.out (fun _ => by omega))
    have hlq : (wiF p (v, x)).length = p.length + 1 := wi_len _ _
    have hk1 : k ≤ p.length := hk
    clear hwq x0 x1 e0 hzr d1 e1 hlt q
    refine wp_region_G 4 (fun w' => w'.cell? ⟨w.heap.size, 0, none⟩ = some (.int .i64 v) ∧ w'.cell? ⟨w.heap.size, 1, none⟩ = some (.int .i64 x)) (by kernel_rfl) (HS.out _ (by exact bel)) ?_
    intro hG0
    refine wpS1 0 hG0 ?_; intro hG1; clear hG0
    refine wpS1 2 hG1 ?_; intro hG2; clear hG1
    refine wpS2 3 hG2 ?_; intro hG3; clear hG2
    refine wpAnyG_ready (rs := [1, 4]) (by kernel_rfl) (by simp) (AllG.cons rfl hG3 (fun K hK => ?_) (AllG.cons rfl hG3 (fun K hK => ?_) AllG.nil))
    (go_simp; go_at_call 33; refine (HCL.out _ (by exact bel)).mono ?_; rintro e w1 ⟨⟨A1, c1, rfl, hown1⟩, hb1⟩; have HB1 := Lib.hid (show Below wq.heap.size wq w1 from below_step hb1 (show wq.heap.size ≤ _ by simp) (show Below wq.heap.size wq _ by exact bel)); have hz1 := HB1.out.size; have HZB := Lib.hid hb1.size; have HO1 := Lib.hid hown1; (try have HH1 := Lib.hid (show BxI w1 wq.heap.size 68 #[.int .i64 v, .int .i64 x] from (BxI.new wq.drew 68 #[.int .i64 v, .int .i64 x]).up hb1)); clear hb1 hown1)
    refine hK.out _ _ (Or.inr (HS.out _ HB1.out)) (fun hG4 => wpN ?_); clear hK hG3
    refine wpAnyG_ready (rs := [4]) (by kernel_rfl) (by simp) (AllG.cons rfl hG4 (fun K hK => ?_) AllG.nil)
    (go_simp)
    refine hK.out _ _ (Or.inl rfl) (fun hG5 => wpN ?_); clear hK hG4
    refine wpAnyG_ready (rs := [5]) (by kernel_rfl) (by simp) (AllG.cons rfl hG5 (fun K hK => ?_) AllG.nil)
    (go_simp; go_at_call 170; refine (insF_any A1 c1 p.length k (fcs p) w1.heap.size 68 [.int .i64 v, .int .i64 x] (HO1.out.alloc _) hk1 (by omega) (by simp; omega) (BxI.new w1 _ _) rfl (by intro u hu; simp at hu; rcases hu with rfl | rfl <;> rfl) (fcs_one p) (fun g hg e => by have := (HO1.out.lt g hg).2; omega)).mono ?_; rintro e w5 ⟨⟨A5, c5, rfl, hown5, hat5⟩, hk5⟩; have HO5 := Lib.hid (own_base hown5 (show w.heap.size ≤ _ by simp; omega)); have HB5 := Lib.hid (show Below w.heap.size w w5 from ((HQ.out.trans (HB1.out.mono HQ.out.size)).alloc (by omega) _).trans (hk5.below (fun b hb hh => by have := (HO1.out.lt b hh).1; simp at this; omega) (by simp; omega))); clear hown5 hat5 hk5)
    refine hK.out _ _ (Or.inl rfl) (fun hG6 => wpN ?_); clear hK hG5
    refine wpS1 6 hG6 ?_; intro hG7; clear hG6
    refine wpAnyG_done (by kernel_rfl) ?_ _; clear hG7
    rotate_left
    (go_simp)
    refine hK.out _ _ (Or.inl rfl) (fun hG4 => wpN ?_); clear hK hG3
    refine wpAnyG_ready (rs := [1]) (by kernel_rfl) (by simp) (AllG.cons rfl hG4 (fun K hK => ?_) AllG.nil)
    (go_simp; go_at_call 33; refine (HCL.out _ (by exact bel)).mono ?_; rintro e w1 ⟨⟨A1, c1, rfl, hown1⟩, hb1⟩; have HB1 := Lib.hid (show Below wq.heap.size wq w1 from below_step hb1 (show wq.heap.size ≤ _ by simp) (show Below wq.heap.size wq _ by exact bel)); have hz1 := HB1.out.size; have HZB := Lib.hid hb1.size; have HO1 := Lib.hid hown1; (try have HH1 := Lib.hid (show BxI w1 wq.heap.size 68 #[.int .i64 v, .int .i64 x] from (BxI.new wq.drew 68 #[.int .i64 v, .int .i64 x]).up hb1)); clear hb1 hown1)
    refine hK.out _ _ (Or.inl rfl) (fun hG5 => wpN ?_); clear hK hG4
    refine wpAnyG_ready (rs := [5]) (by kernel_rfl) (by simp) (AllG.cons rfl hG5 (fun K hK => ?_) AllG.nil)
    (go_simp; go_at_call 170; refine (insF_any A1 c1 p.length k (fcs p) wq.heap.size 68 [.int .i64 v, .int .i64 x] HO1.out hk1 (by omega) HZB.out HH1.out rfl (by intro u hu; simp at hu; rcases hu with rfl | rfl <;> rfl) (fcs_one p) (fun g hg e => by have := (HO1.out.lt g hg).1; simp at this; omega)).mono ?_; rintro e w5 ⟨⟨A5, c5, rfl, hown5, hat5⟩, hk5⟩; have HO5 := Lib.hid (own_base hown5 (show w.heap.size ≤ _ by simp; omega)); have HB5 := Lib.hid (show Below w.heap.size w w5 from (HQ.out.trans (HB1.out.mono HQ.out.size)).trans (hk5.below (fun b hb hh => by have := (HO1.out.lt b hh).1; simp at this; omega) (by omega))); clear hown5 hat5 hk5)
    refine hK.out _ _ (Or.inl rfl) (fun hG6 => wpN ?_); clear hK hG5
    refine wpS1 6 hG6 ?_; intro hG7; clear hG6
    refine wpAnyG_done (by kernel_rfl) ?_ _; clear hG7
    rotate_left
    all_goals (go_wp2; refine bodyPost_ret (v := .slice A5 (p.length + 1) c5) (by simp [results, Tryz.results155, go_sem]) rfl ⟨⟨A5, c5, rfl, ?_⟩, HB5.out⟩; have ho := HO5.out; rw [show [Value.int .i64 v, .int .i64 x] = [.int .i64 (v, x).1, .int .i64 (v, x).2] from rfl, HWI.out, ← hlq] at ho; obtain ⟨A6, c6, e6, h6⟩ := own_facV (bad := fun b => b < w.heap.size) ho (by omega) (fun g hg hh => by have := (ho.lt g hg).1; omega); rw [hlq] at e6; injection e6 with e6 _ _; subst e6; exact h6)
  ·have e0 : decide (k < p.length) = false := by simpa using hlt
   go_wp2
   go_quiet (fail)
   go_wp2
   obtain ⟨wq, hwq⟩ : ∃ wq, wq = wr.drewN nq := ⟨_, rfl⟩
   rw [← hwq]
   have HQ := Lib.hid (show Below w.heap.size w wq by rw [hwq]; exact below_dN hWr.out _)
   have HXq := Lib.hid (show BxI wq w.heap.size 68 #[.int .i64 v, .int .i64 x] by rw [hwq]; exact HXr.out.up (below_dN (Below.refl _ _) _))
   have hzq : w.heap.size < wq.heap.size := HXq.out.lt
   have HS := Lib.hid (fun (W : World) (k : Below wq.heap.size wq W) => (show W.cell? ⟨w.heap.size, 0, none⟩ = some (.int .i64 v) ∧ W.cell? ⟨w.heap.size, 1, none⟩ = some (.int .i64 x) from ⟨(HXq.out.up k).cell 0 _ rfl, (HXq.out.up k).cell 1 _ rfl⟩))
   have HCL := Lib.hid (fun (W : World) (k : Below wq.heap.size wq W) => cloneFac_any p A c W (HP.out.up (HQ.out.trans (k.mono HQ.out.size))) (by omega))
   have HWI := Lib.hid (wi_cells (f := (v, x)) hk Hok.out (fun hh => absurd hh hlt))
   have hlq : (wiF p (v, x)).length = p.length + 1 := wi_len _ _
   have hk1 : k ≤ p.length := hk
   clear hwq x0 x1 e0 hzr hlt
   refine wp_region_G 4 (fun w' => w'.cell? ⟨w.heap.size, 0, none⟩ = some (.int .i64 v) ∧ w'.cell? ⟨w.heap.size, 1, none⟩ = some (.int .i64 x)) (by kernel_rfl) (HS.out _ (by exact bel)) ?_
   intro hG0
   refine wpS1 0 hG0 ?_; intro hG1; clear hG0
   refine wpS1 2 hG1 ?_; intro hG2; clear hG1
   refine wpS2 3 hG2 ?_; intro hG3; clear hG2
   refine wpAnyG_ready (rs := [1, 4]) (by kernel_rfl) (by simp) (AllG.cons rfl hG3 (fun K hK => ?_) (AllG.cons rfl hG3 (fun K hK => ?_) AllG.nil))
   (go_simp; go_at_call 33; refine (HCL.out _ (by exact bel)).mono ?_; rintro e w1 ⟨⟨A1, c1, rfl, hown1⟩, hb1⟩; have HB1 := Lib.hid (show Below wq.heap.size wq w1 from below_step hb1 (show wq.heap.size ≤ _ by simp) (show Below wq.heap.size wq _ by exact bel)); have hz1 := HB1.out.size; have HZB := Lib.hid hb1.size; have HO1 := Lib.hid hown1; (try have HH1 := Lib.hid (show BxI w1 wq.heap.size 68 #[.int .i64 v, .int .i64 x] from (BxI.new wq.drew 68 #[.int .i64 v, .int .i64 x]).up hb1)); clear hb1 hown1)
   refine hK.out _ _ (Or.inr (HS.out _ HB1.out)) (fun hG4 => wpN ?_); clear hK hG3
   refine wpAnyG_ready (rs := [4]) (by kernel_rfl) (by simp) (AllG.cons rfl hG4 (fun K hK => ?_) AllG.nil)
   (go_simp)
   refine hK.out _ _ (Or.inl rfl) (fun hG5 => wpN ?_); clear hK hG4
   refine wpAnyG_ready (rs := [5]) (by kernel_rfl) (by simp) (AllG.cons rfl hG5 (fun K hK => ?_) AllG.nil)
   (go_simp; go_at_call 170; refine (insF_any A1 c1 p.length k (fcs p) w1.heap.size 68 [.int .i64 v, .int .i64 x] (HO1.out.alloc _) hk1 (by omega) (by simp; omega) (BxI.new w1 _ _) rfl (by intro u hu; simp at hu; rcases hu with rfl | rfl <;> rfl) (fcs_one p) (fun g hg e => by have := (HO1.out.lt g hg).2; omega)).mono ?_; rintro e w5 ⟨⟨A5, c5, rfl, hown5, hat5⟩, hk5⟩; have HO5 := Lib.hid (own_base hown5 (show w.heap.size ≤ _ by simp; omega)); have HB5 := Lib.hid (show Below w.heap.size w w5 from ((HQ.out.trans (HB1.out.mono HQ.out.size)).alloc (by omega) _).trans (hk5.below (fun b hb hh => by have := (HO1.out.lt b hh).1; simp at this; omega) (by simp; omega))); clear hown5 hat5 hk5)
   refine hK.out _ _ (Or.inl rfl) (fun hG6 => wpN ?_); clear hK hG5
   refine wpS1 6 hG6 ?_; intro hG7; clear hG6
   refine wpAnyG_done (by kernel_rfl) ?_ _; clear hG7
   rotate_left
   (go_simp)
   refine hK.out _ _ (Or.inl rfl) (fun hG4 => wpN ?_); clear hK hG3
   refine wpAnyG_ready (rs := [1]) (by kernel_rfl) (by simp) (AllG.cons rfl hG4 (fun K hK => ?_) AllG.nil)
   (go_simp; go_at_call 33; refine (HCL.out _ (by exact bel)).mono ?_; rintro e w1 ⟨⟨A1, c1, rfl, hown1⟩, hb1⟩; have HB1 := Lib.hid (show Below wq.heap.size wq w1 from below_step hb1 (show wq.heap.size ≤ _ by simp) (show Below wq.heap.size wq _ by exact bel)); have hz1 := HB1.out.size; have HZB := Lib.hid hb1.size; have HO1 := Lib.hid hown1; (try have HH1 := Lib.hid (show BxI w1 wq.heap.size 68 #[.int .i64 v, .int .i64 x] from (BxI.new wq.drew 68 #[.int .i64 v, .int .i64 x]).up hb1)); clear hb1 hown1)
   refine hK.out _ _ (Or.inl rfl) (fun hG5 => wpN ?_); clear hK hG4
   refine wpAnyG_ready (rs := [5]) (by kernel_rfl) (by simp) (AllG.cons rfl hG5 (fun K hK => ?_) AllG.nil)
   (go_simp; go_at_call 170; refine (insF_any A1 c1 p.length k (fcs p) wq.heap.size 68 [.int .i64 v, .int .i64 x] HO1.out hk1 (by omega) HZB.out HH1.out rfl (by intro u hu; simp at hu; rcases hu with rfl | rfl <;> rfl) (fcs_one p) (fun g hg e => by have := (HO1.out.lt g hg).1; simp at this; omega)).mono ?_; rintro e w5 ⟨⟨A5, c5, rfl, hown5, hat5⟩, hk5⟩; have HO5 := Lib.hid (own_base hown5 (show w.heap.size ≤ _ by simp; omega)); have HB5 := Lib.hid (show Below w.heap.size w w5 from (HQ.out.trans (HB1.out.mono HQ.out.size)).trans (hk5.below (fun b hb hh => by have := (HO1.out.lt b hh).1; simp at this; omega) (by omega))); clear hown5 hat5 hk5)
   refine hK.out _ _ (Or.inl rfl) (fun hG6 => wpN ?_); clear hK hG5
   refine wpS1 6 hG6 ?_; intro hG7; clear hG6
   refine wpAnyG_done (by kernel_rfl) ?_ _; clear hG7
   rotate_left
   all_goals (go_wp2; refine bodyPost_ret (v := .slice A5 (p.length + 1) c5) (by simp [results, Tryz.results155, go_sem]) rfl ⟨⟨A5, c5, rfl, ?_⟩, HB5.out⟩; have ho := HO5.out; rw [show [Value.int .i64 v, .int .i64 x] = [.int .i64 (v, x).1, .int .i64 (v, x).2] from rfl, HWI.out, ← hlq] at ho; obtain ⟨A6, c6, e6, h6⟩ := own_facV (bad := fun b => b < w.heap.size) ho (by omega) (fun g hg hh => by have := (ho.lt g hg).1; omega); rw [hlq] at e6; injection e6 with e6 _ _; subst e6; exact h6)
end

section
open Go Go.RowKit
set_option linter.unusedVariables false

/-- Every state of p is one of an element. -/
def CovP (vars : List Int) (p : List Fct) (L : List (List Fct)) : Prop := ∀ s, stB vars s = true → hoB p s = true → ∃ y ∈ L, hoB y s = true
theorem cov_sub {vars : List Int} {p y : List Fct} {L : List (List Fct)} (hy : y ∈ L) (h : Sub y p) : CovP vars p L := fun s _ hp => ⟨y, hy, ho_sub hp h⟩
theorem cov_split {vars : List Int} {p : List Fct} {L M : List (List Fct)} {v : Int} (h0 : 0 ≤ v) (h1 : v < (vars.length : Int)) (hm : ∀ y ∈ M, y ∈ L)
  (h : ∀ x : Nat, (x : Int) < nth vars v.toNat → CovP vars (wiF p (v, (x : Int))) M) : CovP vars p L := fun s hs hp => by
 have hr : StP vars s := by unfold stB at hs; simpa using hs
 have hl := stB_len hs
 have hx := hr.2 v.toNat (by omega)
 obtain ⟨y, hy, h2⟩ := h (nth s v.toNat).toNat (by omega) s hs (wi_ho.2 ⟨ho_iff.2 fun z hz => by
  have hz' : z = (v, ((nth s v.toNat).toNat : Int)) := by simpa using hz
  rw [hz']
  exact ⟨h0, by show v < (s.length : Int); omega, by show nth s v.toNat = ((nth s v.toNat).toNat : Int); omega⟩, hp⟩)
 exact ⟨y, hm y hy, h2⟩
theorem wi_fa {vars : List Int} {p : List Fct} {v x : Int} (hp : faB vars p = true) (h0 : 0 ≤ v) (h1 : v < (vars.length : Int)) (h2 : 0 ≤ x) (h3 : x < nth vars v.toNat) (hf : findF p v < 0) : faB vars (wiF p (v, x)) = true :=
 fa_iff.2 ⟨wi_asc (fa_asc hp) (find_neg (fa_pos hp) hf), fun y hy => by
  rcases wi_mem.1 hy with rfl | hy
  ·exact ⟨h0, h1, h2, h3⟩
  ·exact fa_inv hp y hy⟩

def CvB (w : World) (X : Nat) (av : Option Addr) (nv cv : Nat) (used steps : Int) (full : Bool) : Prop := BxI w X 213 #[.slice av nv cv, .int .i64 used, .int .i64 steps, .bool full]
/-- What decide leaves. -/
def DecRet (vars : List Int) (X : Nat) (av : Option Addr) (cv : Nat) (steps : Int) (p : List Fct) (hs : List Hd) (used : Int) (full : Bool) (w : World) (e : Ending) (w' : World) : Prop :=
 (∃ (b : Bool) (used' : Int) (full' : Bool), e = .returned (.bool b) ∧ CvB w' X av vars.length cv used' steps full' ∧ used ≤ used' ∧ used' ≤ steps ∧ (b = true → CovP vars p (hls hs)) ∧
  ((∃ y ∈ hls hs, Sub y p) → used < steps → b = true ∧ used' = used + 1 ∧ full' = full)) ∧ Kb (fun b => b = X) w w'
/-- What it asks. -/
structure DecOk (vars : List Int) (X : Nat) (av : Option Addr) (cv : Nat) (steps : Int) (p : List Fct) (A : Option Addr) (hs : List Hd) (L : Option Addr) (used : Int) (full : Bool) (w : World) : Prop where
 fa : faB vars p = true
 fas : ∀ h ∈ hs, faB vars h.l = true
 u0 : 0 ≤ used
 u1 : used ≤ steps
 box : CvB w X av vars.length cv used steps full
 vars : IntsAt w X av vars
 p : Fac w (fun b => b = X) A p
 list : Rls w (fun b => b = X) L hs
theorem CvB.cells {w : World} {X : Nat} {av : Option Addr} {nv cv : Nat} {used steps : Int} {full : Bool} (h : CvB w X av nv cv used steps full) : w.cell? ⟨X, 0, none⟩ = some (.slice av nv cv) ∧ w.cell? ⟨X, 1, none⟩ = some (.int .i64 used) ∧ w.cell? ⟨X, 2, none⟩ = some (.int .i64 steps) ∧ w.cell? ⟨X, 3, none⟩ = some (.bool full) ∧ (∀ k, w.frozen? ⟨X, k, none⟩ = false) ∧ X < w.heap.size :=
 ⟨h.cell 0 _ rfl, h.cell 1 _ rfl, h.cell 2 _ rfl, h.cell 3 _ rfl, fun k => h.fz k, h.lt⟩
theorem CvB.up {w w' : World} {X : Nat} {av : Option Addr} {nv cv : Nat} {used steps : Int} {full : Bool} (h : CvB w X av nv cv used steps full) (k : Below w.heap.size w w') : CvB w' X av nv cv used steps full := BxI.up h k

theorem CvB.kb {w w' : World} {X Y : Nat} {av : Option Addr} {nv cv : Nat} {used steps : Int} {full : Bool} (h : CvB w X av nv cv used steps full) (k : Kb (fun b => b = Y) w w') (hne : X ≠ Y) : CvB w' X av nv cv used steps full := BxI.kb h k hne
theorem CvB.set1 {w : World} {X : Nat} {av : Option Addr} {nv cv : Nat} {used steps u : Int} {full : Bool} (h : CvB w X av nv cv used steps full) : CvB (w.setCell ⟨X, 1, none⟩ (.int .i64 u)) X av nv cv u steps full := BxI.set h 1 _
theorem CvB.set3 {w : World} {X : Nat} {av : Option Addr} {nv cv : Nat} {used steps : Int} {full u : Bool} (h : CvB w X av nv cv used steps full) : CvB (w.setCell ⟨X, 3, none⟩ (.bool u)) X av nv cv used steps u := BxI.set h 3 _
theorem ints_kb {w w' : World} {X : Nat} {A : Option Addr} {l : List Int} (h : IntsAt w X A l) (k : Kb (fun b => b = X) w w') (hX : X < w.heap.size) : IntsAt w' X A l := h.keep (fun q hq => k.cell (by omega) (by show ¬ q.block = X; omega)) (Nat.le_refl _)
theorem one_hd (h : Hd) : ∀ u ∈ [h.v], u.oneCell' = true := by intro u hu; simp at hu; subst hu; rfl
theorem own_rls {w : World} {B X n : Nat} {A : Option Addr} {c : Nat} {hs : List Hd} (h : w.ownsRow B 23 1 (.slice A n c) n (hs.map Hd.v)) (hn : n = hs.length) (hl : hs.length ≤ 1000000) (hX : X < B) (hf : ∀ h ∈ hs, Fac w (fun b => b = X) h.a h.l) : Rls w (fun b => b = X) A hs := by
 subst hn
 exact Orl.rls ⟨h, hf⟩ hl (fun b off e hb => by subst e; have := (h.lt b rfl).1; omega)

set_option maxRecDepth 20000 in
set_option maxHeartbeats 16000000 in
theorem decide_step (vars : List Int) (av : Option Addr) (cv X : Nat) (steps : Int) (hst : steps ≤ 1048576) (hv : vars.length ≤ 1000) (hdm : ∀ k, k < vars.length → nth vars k ≤ 1000) (p : List Fct) (A : Option Addr) (c : Nat) (hs : List Hd) (L : Option Addr) (lc : Nat) (used : Int) (full : Bool) (w : World)
  (IH : ∀ (p' : List Fct) (A' : Option Addr) (c' : Nat) (hs' : List Hd) (L' : Option Addr) (lc' : Nat) (used' : Int) (full' : Bool) (w1 : World), p'.length = p.length + 1 → DecOk vars X av cv steps p' A' hs' L' used' full' w1 →
   Calls Tryz.prog 136 #[.pointer (some ⟨X, 0, none⟩), .slice A' p'.length c', .slice L' hs'.length lc'] w1 fun e w' => DecRet vars X av cv steps p' hs' used' full' w1 e w')
  (h : DecOk vars X av cv steps p A hs L used full w) :
  Calls Tryz.prog 136 #[.pointer (some ⟨X, 0, none⟩), .slice A p.length c, .slice L hs.length lc] w fun e w' => DecRet vars X av cv steps p hs used full w e w' := by
 have HI := Lib.hid IH
 have H := Lib.hid h
 have hu0 := h.u0
 have hu1 := h.u1
 have hln := h.list.len
 have hpl : p.length ≤ 1000 := by have := fa_len h.fa; omega
 obtain ⟨c0, c1, c2, c3, cf, hX⟩ := h.box.cells
 have f1 := cf 1
 have f3 := cf 3
 clear IH h cf
 have hXs : X < w.heap.size := hX
 by_cases hs1 : steps ≤ used
 ·go_enter Tryz.func136, Tryz.ntmps136
  go_wp2
  go_quiet (fail)
  go_wp2
  refine bodyPost_ret (v := .bool false) (by simp [results, Tryz.results136, go_sem]) rfl ⟨⟨false, used, true, rfl, (H.out.box.up (below_dN (Below.refl _ _) _)).set3, Int.le_refl _, hu1, (fun e : false = true => Bool.noConfusion e), fun _ hlt => by omega⟩, Kb.set (bad := fun b => b = X) (Kb.up (Kb.refl _ w) (below_dN (Below.refl _ _) _)) (p := ⟨X, 3, none⟩) (.inl rfl) _⟩
 ·have hus : used < steps := by omega
  have hw1 : IntKind.i64.wrap (used + 1) = used + 1 := by rw [IntKind.wrap_i64]; omega
  go_enter Tryz.func136, Tryz.ntmps136
  go_wp2
  go_quiet (fail)
  go_wp2_with fail
  obtain ⟨W1, hW1⟩ : ∃ W1, W1 = (w.drewN nq).setCell ⟨X, 1, none⟩ (.int .i64 (used + 1)) := ⟨_, rfl⟩
  rw [← hW1]
  have HK1 := Lib.hid (show Kb (fun b => b = X) w W1 by rw [hW1]; exact Kb.set (bad := fun b => b = X) (Kb.up (Kb.refl _ w) (below_dN (Below.refl _ _) _)) (p := ⟨X, 1, none⟩) (.inl rfl) _)
  have HB1 := Lib.hid (show CvB W1 X av vars.length cv (used + 1) steps full by rw [hW1]; exact (H.out.box.up (below_dN (Below.refl _ _) _)).set1)
  have hz1 : W1.heap.size = w.heap.size := by rw [hW1]; simp
  have KC := Lib.hid (fun (W : World) (k : Below W1.heap.size W1 W) (j : Nat) (hj : j < hs.length) => contains_any p (hd hs j).l A (hd hs j).a c (hd hs j).c W (H.out.p.kb (HK1.out.up k)).at_ ((H.out.list.fac hj).kb (HK1.out.up k)).at_)
  have KF := Lib.hid (fun (W : World) (k : Below W1.heap.size W1 W) (j : Nat) (hj : j < hs.length) => conflict_any p (hd hs j).l A (hd hs j).a c (hd hs j).c W (H.out.p.kb (HK1.out.up k)).at_ ((H.out.list.fac hj).kb (HK1.out.up k)).at_)
  have KL := Lib.hid (fun (W : World) (k : Below W1.heap.size W1 W) => H.out.list.kb (HK1.out.up k))
  obtain ⟨inf, hinf, iz0, iz1, iz2⟩ := info_parts ninfL
  have hXW : X < W1.heap.size := by omega
  have HW1 := Lib.hid hW1
  clear hW1 c0 c1 c2 c3 f1 f3 hX
  go_loopw [7, 37] (fun r i wr => ∃ (k : Nat) (rs : List Hd) (RA : Option Addr) (RC : Nat), k ≤ hs.length ∧ r = .slice RA rs.length RC ∧ i = .int .i64 k ∧ rs.length ≤ k ∧ Hid (wr.ownsRow W1.heap.size 23 1 (.slice RA rs.length RC) rs.length (rs.map Hd.v)) ∧ Hid (∀ h ∈ rs, h ∈ hs) ∧ Hid (∀ j, j < k → ¬ Sub (hd hs j).l p) ∧ Hid (Below W1.heap.size W1 wr)) (fun _ i _ => hs.length - (intOf i).toNat)
  case atStart => exact ⟨0, [], none, 0, by omega, rfl, rfl, Nat.le_refl _, Lib.hid (World.ownsRow_nil _ _ _ _), Lib.hid (fun h hh => by cases hh), Lib.hid (fun j hj => absurd hj (by omega)), Lib.hid (Below.refl _ _)⟩
  case round =>
   obtain ⟨k, rs, RA, RC, hk, rfl, rfl, hrk, HO, HM, HN, HE⟩ := hrel
   obtain ⟨wt, rfl⟩ : ∃ wt : World, wt = wr := ⟨_, rfl⟩
   have hzt := HE.out.size
   by_cases hlt : k < hs.length
   ·have hLr := KL.out wt HE.out
    obtain ⟨lb, lo, rfl, hlb, hlx, hlc⟩ := hLr.at_ hlt
    have d1 := hlc k hlt
    obtain ⟨x, hx⟩ : ∃ x, x = hd hs k := ⟨_, rfl⟩
    have HX := Lib.hid hx
    rw [← hx] at d1
    have hxl : x.l.length ≤ 140737488355328 := by rw [hx]; exact (hLr.fac hlt).1
    clear hlc hLr hx
    go_wp2_with fail
    have hc1 := KC.out wt HE.out k hlt
    rw [← HX.out] at hc1
    refine hc1.mono ?_
    rintro e w2 ⟨rfl, hb2⟩
    have HE2 := Lib.hid (show Below W1.heap.size W1 w2 from HE.out.trans (hb2.mono hzt))
    have HO2 := Lib.hid (own_below HO.out hb2)
    have hz2 := hb2.size
    clear hb2 hc1
    cases e1 : cnB p x.l
    ·have Hns := Lib.hid (show ¬ Sub x.l p by rw [← cn_iff (fa_asc H.out.fa) (fa_pos (H.out.fas x (by rw [HX.out]; exact hd_mem hlt)))]; rw [e1]; simp)
     go_wp2_with fail
     have hc2 := KF.out w2 HE2.out k hlt
     rw [← HX.out] at hc2
     refine hc2.mono ?_
     rintro e w3 ⟨rfl, hb3⟩
     have HE3 := Lib.hid (show Below W1.heap.size W1 w3 from HE2.out.trans (hb3.mono (by omega)))
     have HO3 := Lib.hid (own_below HO2.out hb3)
     have hz3 := hb3.size
     clear hb3 hc2
     cases e2 : cfB p x.l
     ·go_wp2_with (at_builtin; refine wpList_append_src (by rfl) _ _ 77 (by rfl) W1.heap.size 23 inf (.slice none 0 0) 1 24 nundL hinf iz0 iz1 iz2 rfl (by decide) (.slice RA rs.length RC) rs.length (rs.map Hd.v) (by rfl) (by exact HO3.out.alloc _) (some ⟨w3.heap.size, 0, none⟩) 1 1 [.slice x.a x.l.length x.c] (by rfl) (src_of (heap_alloc_new w3 _) rfl (one_hd x)) (by unfold maxLen; omega) (by omega) (by first | omega | (simp; done) | (simp; omega)) ?_; intro v4 w4 hown4 hgrow4 _; obtain ⟨A4, c4, rfl⟩ := own_shape hown4; have HO4 := Lib.hid hown4; have HE4 := Lib.hid (show Below W1.heap.size W1 w4 from (HE3.out.alloc (by omega) _).grown hgrow4 (by simp; omega) (fun b hb => (HO3.out.lt b hb).1)); clear hown4 hgrow4)
      go_roundw
      case rel => exact ⟨k + 1, rs ++ [x], A4, c4, by omega, by rw [List.length_append]; rfl, by go_num, by rw [List.length_append]; simp; omega, Lib.hid (by rw [List.length_append, List.map_append]; exact HO4.out), Lib.hid (fun h hh => by rcases List.mem_append.1 hh with h1 | h1; exact HM.out h h1; simp at h1; rw [h1, HX.out]; exact hd_mem hlt), Lib.hid (fun j hj => by rcases Nat.lt_succ_iff_lt_or_eq.1 hj with h1 | rfl; exact HN.out j h1; rw [← HX.out]; exact Hns.out), HE4⟩
      case measure => simp [intOf]; omega
     ·go_wp2
      go_roundw
      case rel => exact ⟨k + 1, rs, RA, RC, by omega, rfl, by go_num, by omega, HO3, HM, Lib.hid (fun j hj => by rcases Nat.lt_succ_iff_lt_or_eq.1 hj with h1 | rfl; exact HN.out j h1; rw [← HX.out]; exact Hns.out), HE3⟩
      case measure => simp [intOf]; omega
    ·have Hs := Lib.hid (show Sub x.l p by rw [← cn_iff (fa_asc H.out.fa) (fa_pos (H.out.fas x (by rw [HX.out]; exact hd_mem hlt)))]; exact e1)
     go_wp2
     refine bodyPost_ret (v := .bool true) (by simp [results, Tryz.results136, go_sem]) rfl ⟨⟨true, used + 1, full, rfl, HB1.out.up HE2.out, by omega, by omega, fun _ => cov_sub (mem_hls.2 ⟨k, hlt, by rw [HX.out]⟩) Hs.out, fun _ _ => ⟨rfl, rfl, rfl⟩⟩, HK1.out.up HE2.out⟩
   ·have Hno := Lib.hid (show ¬ ∃ y ∈ hls hs, Sub y p from fun ⟨y, hy, h2⟩ => by
     obtain ⟨j, hj, rfl⟩ := mem_hls.1 hy
     exact HN.out j (by omega) h2)
    have HBt := Lib.hid (HB1.out.up HE.out)
    obtain ⟨c0, c1, c2, c3, cf, hXt⟩ := HBt.out.cells
    clear c1 c2 c3 cf
    have HKt := Lib.hid (HK1.out.up HE.out)
    have hrl : rs.length ≤ 1000000 := by omega
    clear hk
    have HRf := Lib.hid (fun (h : Hd) (hh : h ∈ rs) => H.out.list.2.2 h (HM.out h hh))
    have HRS := Lib.hid (fun (W : World) (k : Below wt.heap.size wt W) => own_rls (own_below HO.out k) rfl hrl hXW (fun h hh => (HRf.out h hh).kb (HKt.out.up k)))
    have HRfa := Lib.hid (fun (h : Hd) (hh : h ∈ rs) => H.out.fas h (HM.out h hh))
    have KD := Lib.hid (fun (W : World) (k : Below wt.heap.size wt W) (v : Int) => find_any p v A c W (H.out.p.kb (HKt.out.up k)).at_)
    have hvl : vars.length ≤ 1000 := hv
    go_wp2_with fail
    clear hlt
    go_loopw [10, 60] (fun q i wr => ∃ (k : Nat) (v : Int), k ≤ rs.length ∧ q = .int .i64 v ∧ i = .int .i64 k ∧ 0 ≤ v ∧ v ≤ (vars.length : Int) ∧ Hid (v < (vars.length : Int) → findF p v < 0) ∧ Hid (Below wt.heap.size wt wr)) (fun _ i _ => rs.length - (intOf i).toNat)
    case atStart => exact ⟨0, (vars.length : Int), by omega, rfl, rfl, by omega, by omega, Lib.hid (fun h => absurd h (by omega)), Lib.hid (Below.refl _ _)⟩
    case round =>
     obtain ⟨k2, v, hk2, rfl, rfl, hv0, hv1, HV, HE2⟩ := hrel
     obtain ⟨wu, rfl⟩ : ∃ wu : World, wu = wr := ⟨_, rfl⟩
     have hzu := HE2.out.size
     by_cases hlt2 : k2 < rs.length
     ·have hLr := HRS.out wu HE2.out
      obtain ⟨lb, lo, rfl, hlb, hlx, hlc⟩ := hLr.at_ hlt2
      have d1 := hlc k2 hlt2
      have hfx := HRfa.out _ (hd_mem hlt2)
      have hfc := hLr.fac hlt2
      obtain ⟨x, hx⟩ : ∃ x, x = hd rs k2 := ⟨_, rfl⟩
      rw [← hx] at d1 hfx hfc
      have HFX := Lib.hid hfx
      have HFC := Lib.hid hfc
      have hxl : x.l.length ≤ 140737488355328 := hfc.1
      clear hlc hLr hx hfx hfc
      go_wp2_with fail
      go_loopw [10, 66] (fun q i wr => ∃ (j : Nat) (v : Int), j ≤ x.l.length ∧ q = .int .i64 v ∧ i = .int .i64 j ∧ 0 ≤ v ∧ v ≤ (vars.length : Int) ∧ Hid (v < (vars.length : Int) → findF p v < 0) ∧ Hid (Below wu.heap.size wu wr)) (fun _ i _ => x.l.length - (intOf i).toNat)
      case atStart => exact ⟨0, v, by omega, rfl, rfl, hv0, hv1, HV, Lib.hid (Below.refl _ _)⟩
      case round =>
       clear HV
       obtain ⟨j, v, hj, rfl, rfl, hv0, hv1, HV, HE3⟩ := hrel
       obtain ⟨wy, rfl⟩ : ∃ wy : World, wy = wr := ⟨_, rfl⟩
       have hzy := HE3.out.size
       by_cases hlt3 : j < x.l.length
       ·have hF := HFC.out.up HE3.out
        obtain ⟨fb, fo, hfa, hfb, _, hfc⟩ := hF.2 (by omega)
        obtain ⟨y1, y2⟩ := hfc j hlt3
        have hin := fa_inv HFX.out _ (fct_mem hlt3)
        have hn0 : 0 ≤ fv x.l j := hin.1
        have hn1 : fv x.l j < (vars.length : Int) := hin.2.1
        clear hF hfc hin
        rw [hfa]
        by_cases q0 : fv x.l j < v
        ·have e0 : decide (fv x.l j < v) = true := by simpa using q0
         go_wp2_with fail
         have hcf := KD.out (wy.alloc (.cells #[.int .i64 (fv x.l j), .int .i64 (fx x.l j)] 68)) (show Below wt.heap.size wt _ from (HE2.out.trans (HE3.out.mono hzu)).alloc (by omega) _) (fv x.l j)
         refine hcf.mono ?_
         rintro e w8 ⟨rfl, hb8⟩
         have HE8 := Lib.hid (show Below wu.heap.size wu w8 from (HE3.out.alloc hzy _).trans (hb8.mono (by simp; omega)))
         have y3 : w8.cell? ⟨wy.heap.size, 0, none⟩ = some (.int .i64 (fv x.l j)) := ((BxI.new wy 68 #[.int .i64 (fv x.l j), .int .i64 (fx x.l j)]).up hb8).cell 0 _ rfl
         clear hb8 hcf
         by_cases q1 : findF p (fv x.l j) < 0
         ·go_wp2
          go_roundw
          case rel => exact ⟨j + 1, fv x.l j, by omega, rfl, by go_num, hn0, by omega, Lib.hid (fun _ => q1), HE8⟩
          case measure => simp [intOf]; omega
         ·go_wp2
          go_roundw
          case rel => exact ⟨j + 1, v, by omega, rfl, by go_num, hv0, hv1, HV, HE8⟩
          case measure => simp [intOf]; omega
        ·have e0 : decide (fv x.l j < v) = false := by simpa using q0
         go_wp2
         go_roundw
         case rel => exact ⟨j + 1, v, by omega, rfl, by go_num, hv0, hv1, HV, Lib.hid (HE3.out.alloc hzy _)⟩
         case measure => simp [intOf]; omega
       ·go_wp2
        go_roundw
        case rel => exact ⟨k2 + 1, v, by omega, rfl, by go_num, hv0, hv1, HV, Lib.hid (HE2.out.trans (HE3.out.mono hzu))⟩
        case measure => simp [intOf]; omega
     ·have c0' := (HBt.out.up HE2.out).cells.1
      clear c0 hk2
      by_cases hvv : v = (vars.length : Int)
      ·subst hvv
       go_wp2
       refine bodyPost_ret (v := .bool false) (by simp [results, Tryz.results136, go_sem]) rfl ⟨⟨false, used + 1, full, rfl, HBt.out.up HE2.out, by omega, by omega, (fun e : false = true => Bool.noConfusion e), fun hh => absurd hh Hno.out⟩, HKt.out.up HE2.out⟩
      ·have hvlt : v < (vars.length : Int) := by omega
       have e91 : (v == (vars.length : Int)) = false := beq_eq_false_iff_ne.2 hvv
       have hfd := HV.out hvlt
       have HVV := Lib.hid hv0
       have hvi := ints_kb H.out.vars (HKt.out.up HE2.out) hXs
       obtain ⟨vb, vo, hva, hvb, hvc⟩ := hvi.at_ (k := v.toNat) (by omega)
       have hvn := hvc v.toNat (by omega)
       have hvt : ((v.toNat : Nat) : Int) = v := by omega
       have HVA := Lib.hid hva
       clear hvc hvi
       rw [hva] at c0'
       obtain ⟨m, hm⟩ : ∃ m, m = nth vars v.toNat := ⟨_, rfl⟩
       rw [← hm] at hvn
       have HMM := Lib.hid hm
       have hmb : m ≤ 1000 := by rw [hm]; exact hdm _ (by omega)
       clear hm hva
       go_wp2_with fail
       have HKu := Lib.hid (HKt.out.up HE2.out)
       have hXu : X < wu.heap.size := by omega
       have HOu := Lib.hid (own_below HO.out HE2.out)
       clear hvn hvb hvt c0' hv0 hv1
       go_loopw [99] (fun i wr => ∃ (y : Nat) (us : Int) (fu : Bool), i = .int .i64 y ∧ y ≤ m.toNat ∧ used + 1 ≤ us ∧ us ≤ steps ∧ Hid (CvB wr X (some ⟨vb, vo, none⟩) vars.length cv us steps fu) ∧ Hid (∀ z : Nat, z < y → CovP vars (wiF p (v, (z : Int))) (hls rs)) ∧ Hid (Kb (fun b => b = X) wu wr)) (fun i _ => m.toNat - (intOf i).toNat)
       case atStart => exact ⟨0, used + 1, full, rfl, by omega, by omega, by omega, Lib.hid (by rw [← HVA.out]; exact HBt.out.up HE2.out), Lib.hid (fun z hz => absurd hz (by omega)), Lib.hid (Kb.refl _ _)⟩
       case round =>
        obtain ⟨y, us, fu, rfl, hy, hus1, hus2, HBr, HC, HKr⟩ := hrel
        obtain ⟨wz, rfl⟩ : ∃ wz : World, wz = wr := ⟨_, rfl⟩
        have hzz := HKr.out.size
        by_cases hlt4 : (y : Int) < m
        ·have hwi := with_any p v (y : Int) A c wz (H.out.p.kb (HKu.out.trans HKr.out)).at_ (by omega)
         unfold WiRet at hwi
         go_wp2_with fail
         refine hwi.mono ?_
         rintro e w2 ⟨⟨A2, c2, rfl, hf2⟩, hb2⟩
         have HK2 := Lib.hid (show Kb (fun b => b = X) wu w2 from HKr.out.up hb2)
         have hfa2 : faB vars (wiF p (v, (y : Int))) = true := wi_fa H.out.fa HVV.out hvlt (by omega) (by rw [← HMM.out]; exact hlt4) hfd
         have hde := HI.out (wiF p (v, (y : Int))) A2 c2 rs RA RC us fu w2 (wi_len _ _)
          {
           fa := hfa2, fas := HRfa.out, u0 := by omega, u1 := hus2, box := by rw [HVA.out]; exact HBr.out.up hb2, vars := ints_kb H.out.vars (HKu.out.trans HK2.out) hXs,
           p := hf2.sub (fun b _ h => by rw [h]; omega),
           list := own_rls (own_kb HOu.out HK2.out (fun g hg h => by have := (HOu.out.lt g hg).1; omega)) rfl hrl hXW (fun h hh => (HRf.out h hh).kb (HKu.out.trans HK2.out)) }
         rw [wi_len] at hde
         have HDE := Lib.hid hde
         clear hb2 hf2 hwi hde
         go_wp2_with fail
         refine HDE.out.mono ?_
         rintro e w3 ⟨⟨b3, us3, fu3, rfl, hbx3, hu3, hu4, hcv3, _⟩, hk3⟩
         have HK3 := Lib.hid (show Kb (fun b => b = X) wu w3 from HK2.out.trans hk3)
         have HBX3 := Lib.hid hbx3
         have HCV3 := Lib.hid hcv3
         clear hbx3 hcv3 hk3 HDE
         cases b3
         ·go_wp2
          refine bodyPost_ret (v := .bool false) (by simp [results, Tryz.results136, go_sem]) rfl ⟨⟨false, us3, fu3, rfl, HBX3.out, by omega, by omega, (fun e : false = true => Bool.noConfusion e), fun hh => absurd hh Hno.out⟩, HKu.out.trans HK3.out⟩
         ·go_wp2
          go_roundw
          case rel => exact ⟨y + 1, us3, fu3, by go_num, by omega, by omega, hu4, Lib.hid (by rw [← HVA.out]; exact HBX3.out), Lib.hid (fun z hz => by rcases Nat.lt_succ_iff_lt_or_eq.1 hz with h1 | rfl; exact HC.out z h1; exact HCV3.out (by first | rfl | trivial)), HK3⟩
          case measure => simp [intOf]; omega
        ·have Hcv := Lib.hid (cov_split (L := hls hs) (M := hls rs) HVV.out hvlt (fun y hy => by
          obtain ⟨j, hj, rfl⟩ := mem_hls.1 hy
          exact List.mem_map.2 ⟨_, HM.out _ (hd_mem hj), rfl⟩) (fun z hz => HC.out z (by rw [← HMM.out] at hz; omega)))
         go_wp2
         refine bodyPost_ret (v := .bool true) (by simp [results, Tryz.results136, go_sem]) rfl ⟨⟨true, us, fu, rfl, by rw [HVA.out]; exact HBr.out, by omega, by omega, fun _ => Hcv.out, fun hh => absurd hh Hno.out⟩, HKu.out.trans HKr.out⟩
/-- decide. -/
theorem decide_any (vars : List Int) (av : Option Addr) (cv X : Nat) (steps : Int) (hst : steps ≤ 1048576) (hv : vars.length ≤ 1000) (hdm : ∀ k, k < vars.length → nth vars k ≤ 1000) : ∀ (n : Nat) (p : List Fct) (A : Option Addr) (c : Nat) (hs : List Hd) (L : Option Addr) (lc : Nat) (used : Int) (full : Bool) (w : World), vars.length < p.length + n →
    DecOk vars X av cv steps p A hs L used full w →
    Calls Tryz.prog 136 #[.pointer (some ⟨X, 0, none⟩), .slice A p.length c, .slice L hs.length lc] w fun e w' => DecRet vars X av cv steps p hs used full w e w'
  | 0, p, A, c, hs, L, lc, used, full, w, hn, h => absurd (fa_len h.fa) (by omega)
  | n + 1, p, A, c, hs, L, lc, used, full, w, hn, h => decide_step vars av cv X steps hst hv hdm p A c hs L lc used full w
      (fun p' A' c' hs' L' lc' used' full' w1 hl h' => decide_any vars av cv X steps hst hv hdm n p' A' c' hs' L' lc' used' full' w1 (by omega) h') h
end

section
open Go Go.RowKit
set_option linter.unusedVariables false

set_option maxHeartbeats 1000000 in
theorem if_cov (w : World) (A : Option Addr) (n c : Nat) (E0 : Nat → Value) (P : Nat → Bool) (B0 : Value) (hl : n ≤ 1000000) (h : 0 < n → ∃ b off, A = some ⟨b, off, none⟩ ∧ b < w.heap.size ∧ ∀ j, j < n → w.cell? ⟨b, off + j, none⟩ = some (E0 j))
  (hg : ∀ W, Below w.heap.size w W → ∀ j, j < n → Calls Tryz.prog 135 #[E0 j, B0] W fun e w' => e = .returned (.bool (P j)) ∧ Below W.heap.size W w') :
  Calls Tryz.prog 94 #[.slice A n c, .func (.func 135) #[] #[B0]] w fun e w' => (∃ i, e = .returned (.int .i64 i) ∧ decide (0 ≤ i) = anyB n P) ∧ Below w.heap.size w w' := by
 have HG := Lib.hid hg
 clear hg
 go_enter Tryz.func94, Tryz.ntmps94
 go_wp2
 go_loopw [8] (fun i wr => ∃ k : Nat, k ≤ n ∧ i = .int .i64 k ∧ Hid (anyB k P = false) ∧ Below w.heap.size w wr) (fun i _ => n - (intOf i).toNat)
 case atStart => exact ⟨0, by omega, rfl, Lib.hid rfl, Below.refl _ _⟩
 case round =>
  obtain ⟨k, hk, rfl, HB, hbel⟩ := hrel
  by_cases hlt : k < n
  ·obtain ⟨b, off, rfl, hb, hc⟩ := h (by omega)
   have hbz := hbel.size
   have d0 := (hbel.cell (p := ⟨b, off + k, none⟩) hb).trans (hc k hlt)
   have hcl := HG.out wr hbel k hlt
   clear hc
   cases e1 : P k
   ·rw [e1] at hcl
    go_wp2_with fail
    refine hcl.mono ?_
    rintro e w2 ⟨rfl, hb2⟩
    have HB2 := Lib.hid (show Below w.heap.size w w2 from hbel.trans (hb2.mono hbz))
    clear hcl hb2
    go_wp2
    go_roundw
    case rel => exact ⟨k + 1, by omega, by go_num, Lib.hid (by rw [anyB_succ, HB.out]; exact e1), HB2.out⟩
    case measure => simp [intOf]; omega
   ·rw [e1] at hcl
    have HT := Lib.hid (anyB_true.2 ⟨k, hlt, e1⟩)
    go_wp2_with fail
    refine hcl.mono ?_
    rintro e w2 ⟨rfl, hb2⟩
    have HB2 := Lib.hid (show Below w.heap.size w w2 from hbel.trans (hb2.mono hbz))
    clear hcl hb2
    go_wp2
    go_ret
    refine ⟨⟨_, rfl, ?_⟩, HB2.out⟩
    rw [HT.out]
    simp
  ·have HF := Lib.hid (show anyB n P = false by rw [show n = k by omega]; exact HB.out)
   go_wp2
   go_ret
   refine ⟨⟨_, rfl, ?_⟩, hbel⟩
   rw [HF.out]
   rfl
set_option maxHeartbeats 1000000 in
theorem cf_cov (w : World) (A : Option Addr) (n c : Nat) (E0 : Nat → Value) (P : Nat → Bool) (B0 : Value) (hl : n ≤ 1000000) (h : 0 < n → ∃ b off, A = some ⟨b, off, none⟩ ∧ b < w.heap.size ∧ ∀ j, j < n → w.cell? ⟨b, off + j, none⟩ = some (E0 j))
  (hg : ∀ W, Below w.heap.size w W → ∀ j, j < n → Calls Tryz.prog 135 #[E0 j, B0] W fun e w' => e = .returned (.bool (P j)) ∧ Below W.heap.size W w') :
  Calls Tryz.prog 62 #[.slice A n c, .func (.func 135) #[] #[B0]] w fun e w' => e = .returned (.bool (anyB n P)) ∧ Below w.heap.size w w' := by
 have k1 := Lib.hid (if_cov w A n c E0 P B0 hl h hg)
 clear h hg
 go_enter Tryz.func62, Tryz.ntmps62
 go_wp2_with fail
 refine k1.out.mono ?_
 rintro e w1 ⟨⟨i, rfl, hi⟩, hb1⟩
 have Hi := Lib.hid hi
 clear hi
 go_wp2
 go_ret
 exact ⟨bool_ret Hi.out, hb1⟩
end

section
open Go Go.RowKit
set_option linter.unusedVariables false

set_option maxHeartbeats 1000000 in
theorem covClo_any (vars : List Int) (p : List Fct) (av A : Option Addr) (cv c Z : Nat) (w : World) (hv : IntsAt w w.heap.size av vars) (hp : FactsAt w w.heap.size A p) (hz : w.cell? ⟨Z, 0, none⟩ = some (.slice av vars.length cv)) (hZ : Z < w.heap.size) :
  Calls Tryz.prog 135 #[.slice A p.length c, .pointer (some ⟨Z, 0, none⟩)] w fun e w' => e = .returned (.bool (!faB vars p)) ∧ Below w.heap.size w w' := by
 have K := Lib.hid (facts_any vars p av A cv c w hv hp)
 clear hv hp
 go_enter Tryz.func135, Tryz.ntmps135
 go_wp2_with fail
 refine K.out.mono ?_
 rintro e w1 ⟨rfl, hb1⟩
 go_wp2
 go_ret
 exact ⟨rfl, hb1⟩

def allFa (vars : List Int) (hs : List Hd) : Bool := !anyB hs.length fun j => !faB vars (hd hs j).l
theorem allFa_iff {vars : List Int} {hs : List Hd} : allFa vars hs = true ↔ ∀ h ∈ hs, faB vars h.l = true := by
 unfold allFa
 rw [Bool.not_eq_true', anyB_false]
 constructor
 ·intro h x hx
  obtain ⟨k, hk, rfl⟩ := List.mem_iff_getElem.1 hx
  have := h k hk
  rw [show hd hs k = hs[k] by unfold hd; simp [List.getD, List.getElem?_eq_getElem hk]] at this
  simpa using this
 ·intro h k hk
  rw [h _ (hd_mem hk)]; rfl
/-- What Covered returns. -/
structure CovOut (vars : List Int) (p : List Fct) (hs : List Hd) (steps : Int) (b : Bool) (u ec : Int) : Prop where
 ok : ec = 0 → 0 ≤ u ∧ u ≤ steps ∧ (b = true → CovP vars p (hls hs))
 bad : faB vars p = true → (∀ h ∈ hs, faB vars h.l = true) → ec = 0 ∨ ec = 10
 one : faB vars p = true → (∀ h ∈ hs, faB vars h.l = true) → (∃ y ∈ hls hs, Sub y p) → 0 < steps → b = true ∧ u = 1 ∧ ec = 0

set_option maxRecDepth 20000 in
set_option maxHeartbeats 8000000 in
theorem covered_any (vars : List Int) (p : List Fct) (hs : List Hd) (av A L : Option Addr) (cv c lc : Nat) (steps : Int) (w : World) (hst0 : 0 ≤ steps) (hst : steps ≤ 1048576) (hv : vars.length ≤ 1000) (hdm : ∀ k, k < vars.length → nth vars k ≤ 1000)
  (h1 : IntsAt w w.heap.size av vars) (h2 : FactsAt w w.heap.size A p) (h3 : Rls w (fun _ => False) L hs) :
  Calls Tryz.prog 107 #[.slice av vars.length cv, .slice A p.length c, .slice L hs.length lc, .int .i64 steps] w fun e w' =>
   (∃ (b : Bool) (u ec : Int), e = .returned (.tuple #[.bool b, .int .i64 u, erV ec]) ∧ CovOut vars p hs steps b u ec) ∧ Below w.heap.size w w' := by
 have hln := h3.len
 obtain ⟨W0, hW0⟩ : ∃ W0, W0 = w.alloc (.cells #[.slice av vars.length cv] 22) := ⟨_, rfl⟩
 have hz0 : W0.heap.size = w.heap.size + 1 := by rw [hW0]; simp
 have HB0 := Lib.hid (show Below w.heap.size w W0 by rw [hW0]; exact (Below.refl _ _).alloc (Nat.le_refl _) _)
 have HX0 := Lib.hid (show BxI W0 w.heap.size 22 #[.slice av vars.length cv] by rw [hW0]; exact BxI.new _ _ _)
 have x0 := HX0.out.cell 0 (.slice av vars.length cv) rfl
 have K1 := Lib.hid (facts_any vars p av A cv c W0 (h1.up HB0.out) (h2.up HB0.out))
 have H1 := Lib.hid h1
 have H2 := Lib.hid h2
 have H3 := Lib.hid h3
 clear h1 h2 h3
 go_enter Tryz.func107, Tryz.ntmps107
 go_wp2_with fail
 rw [← hW0]
 refine K1.out.mono ?_
 rintro e w1 ⟨rfl, hb1⟩
 have HB1 := Lib.hid (show Below W0.heap.size W0 w1 from hb1)
 have HBw := Lib.hid (show Below w.heap.size w w1 from HB0.out.trans (hb1.mono (by omega)))
 have x1 := (HX0.out.up hb1).cell 0 (.slice av vars.length cv) rfl
 have hz1 := hb1.size
 have HW0 := Lib.hid hW0
 clear hW0 hb1 K1
 cases e1 : faB vars p
 ·go_wp2
  refine bodyPost_ret (v := .tuple #[.bool false, .int .i64 0, erV 2]) (by simp [results, Tryz.results107, go_sem, erV]) rfl ⟨⟨false, 0, 2, rfl, ⟨fun e => absurd e (by decide), (fun e => by rw [e1] at e; cases e), (fun e => by rw [e1] at e; cases e)⟩⟩, HBw.out⟩
 ·have KC := Lib.hid (cf_cov w1 L hs.length lc (fun j => (hd hs j).v) (fun j => !faB vars (hd hs j).l) (.pointer (some ⟨w.heap.size, 0, none⟩)) hln
   (fun h0 => by
    obtain ⟨b, off, e, hb, _, hc⟩ := (H3.out.up HBw.out).2.1 h0
    exact ⟨b, off, e, hb, hc⟩)
   (fun W hW j hj => covClo_any vars (hd hs j).l av (hd hs j).a cv (hd hs j).c w.heap.size W (H1.out.up (HBw.out.trans (hW.mono HBw.out.size))) ((H3.out.fac hj).up (HBw.out.trans (hW.mono HBw.out.size))).at_ (((HX0.out.up HB1.out).up hW).cell 0 _ rfl) (Nat.lt_of_lt_of_le (by omega) hW.size)))
  go_wp2_with fail
  refine KC.out.mono ?_
  rintro e w2 ⟨rfl, hb2⟩
  have HBw2 := Lib.hid (show Below w.heap.size w w2 from HBw.out.trans (hb2.mono (by omega)))
  have x2 := ((HX0.out.up HB1.out).up hb2).cell 0 (.slice av vars.length cv) rfl
  have hz2 := hb2.size
  clear hb2 KC x0 x1
  cases e2 : anyB hs.length fun j => !faB vars (hd hs j).l
  ·have HA := Lib.hid (allFa_iff.1 (show allFa vars hs = true by unfold allFa; rw [e2]; rfl))
   clear e2
   go_wp2_with fail
   obtain ⟨X, hX⟩ : ∃ X, X = w2.heap.size := ⟨_, rfl⟩
   obtain ⟨W3, hW3⟩ : ∃ W3, W3 = w2.alloc (.cells #[.slice av vars.length cv, .int .i64 0, .int .i64 steps, .bool false] 213) := ⟨_, rfl⟩
   have HBW3 := Lib.hid (show Below w.heap.size w W3 by rw [hW3]; exact HBw2.out.alloc HBw2.out.size _)
   have HCV := Lib.hid (show CvB W3 X av vars.length cv 0 steps false by rw [hW3, hX]; exact BxI.new w2 _ _)
   have hwX : w.heap.size ≤ X := by rw [hX]; omega
   rw [← hX, ← hW3]
   have HX := Lib.hid hX
   have HW3 := Lib.hid hW3
   clear hX hW3
   have HD := Lib.hid (decide_any vars av cv X steps hst hv hdm (vars.length + 1) p A c hs L lc 0 false W3 (by omega)
    {
     fa := e1, fas := HA.out, u0 := Int.le_refl _, u1 := hst0, box := HCV.out, vars := (H1.out.below HBW3.out).keep (fun q hq => rfl) hwX,
     p := fac_low (H2.out.below HBW3.out) (by have := HCV.out.lt; omega) (fun b hb h => by omega),
     list := by
      have hm : Moves w W3 (fun _ => False) (fun b => b = X) := ⟨HBW3.out.size, fun b hb _ => HBW3.out.block b hb, fun b hb h => by omega⟩
      exact H3.out.move hm })
   refine HD.out.mono ?_
   rintro e w4 ⟨⟨b, us, fu, rfl, hbx, hu0, hu1, hcv, hon⟩, hk4⟩
   have HB4 := Lib.hid (show Below w.heap.size w w4 from HBW3.out.trans (hk4.below (fun q hq h => by omega) (by have := HBW3.out.size; omega)))
   obtain ⟨y0, y1, y2, y3, yf, yX⟩ := hbx.cells
   have HCV4 := Lib.hid hcv
   have HON := Lib.hid hon
   clear hk4 hcv hon HD x2 y0 y2 yf hbx
   cases fu
   ·go_wp2
    go_quiet (fail)
    go_wp2
    refine bodyPost_ret (v := .tuple #[.bool b, .int .i64 us, erV 0]) (by simp [results, Tryz.results107, go_sem, erV]) rfl ⟨⟨b, us, 0, rfl, ⟨fun _ => ⟨hu0, hu1, HCV4.out⟩, fun _ _ => .inl rfl, fun _ _ hy hs0 => ?_⟩⟩, below_dN HB4.out _⟩
    obtain ⟨a1, a2, a3⟩ := HON.out hy hs0
    exact ⟨a1, by omega, rfl⟩
   ·go_wp2
    refine bodyPost_ret (v := .tuple #[.bool false, .int .i64 0, erV 10]) (by simp [results, Tryz.results107, go_sem, erV]) rfl ⟨⟨false, 0, 10, rfl, ⟨fun e => absurd e (by decide), fun _ _ => .inr rfl, fun _ _ hy hs0 => ?_⟩⟩, HB4.out⟩
    have := (HON.out hy hs0).2.2
    cases this
  ·have HA := Lib.hid (show ¬ ∀ h ∈ hs, faB vars h.l = true from fun hh => by
    have := allFa_iff.2 hh
    unfold allFa at this
    rw [e2] at this; cases this)
   clear e2
   go_wp2
   refine bodyPost_ret (v := .tuple #[.bool false, .int .i64 0, erV 2]) (by simp [results, Tryz.results107, go_sem, erV]) rfl ⟨⟨false, 0, 2, rfl, ⟨fun e => absurd e (by decide), fun _ hh => absurd hh HA.out, fun _ hh => absurd hh HA.out⟩⟩, HBw2.out⟩
end

end Go.Proofs.YtlkebhiaimijiaaGreatDoor
