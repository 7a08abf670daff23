/- simplex: Dual. -/
import Derived.Test.YtaomaopbdilmnaaSxN
import Derived.Test.YtaomaopbdilmnaaSxK
namespace Go.Proofs.Ytaomaopbdilmnaa
set_option linter.unusedSimpArgs false
set_option linter.unusedVariables false
open Go Go.RowKit
set_option linter.unusedVariables false

/-- Column k is not kept. -/
def duN (c : List (Int × Int)) (R : List (List (Int × Int))) (y : List (Int × Int)) (k : Nat) : Bool :=
  decide ((dotF (cln R k R.length) y).2.2 ≠ 0) || (!prB (fv c k) (fx c k) || decide (cmpF (dotF (cln R k R.length) y).1 (dotF (cln R k R.length) y).2.1 (fv c k) (fx c k) < 0))
/-- Row i has another length. -/
def duL (n : Nat) (R : List (List (Int × Int))) (i : Nat) : Bool := decide ((mr R i).length ≠ n)
def duB (c : List (Int × Int)) (R : List (List (Int × Int))) (y : List (Int × Int)) : Bool := decide (R.length = y.length) && (solB y && (!anyB R.length (duL c.length R) && !anyB c.length (duN c R y)))

set_option maxRecDepth 100000 in
set_option maxHeartbeats 8000000 in
theorem dual_any (c : List (Int × Int)) (R : List (List (Int × Int))) (y : List (Int × Int)) (Ac AR Ay : Option Addr) (cc cR cy : Nat) (w : World) (hc : FactsAt w w.heap.size Ac c) (hR : MxAt w AR R) (hy : FactsAt w w.heap.size Ay y) (m24 : R.length ≤ 1000) :
    Calls Try.prog 26 #[.slice Ac c.length cc, .slice AR R.length cR, .slice Ay y.length cy] w fun e w' => e = .returned (.bool (duB c R y)) ∧ Below w.heap.size w w' := by
  have lR := hR.1
  have lc := hc.len
  have ly := hy.len
  have HR := Lib.hid hR
  have Hc := Lib.hid hc
  have KS := Lib.hid (solution_any y Ay cy w hy)
  have KD := Lib.hid (fun l A cl wx (h : Below w.heap.size w wx) (hl : FactsAt wx wx.heap.size A l) => dot_any l y A Ay cl cy wx hl (factsAt_up hy h))
  have HG : Hid (duB c R y = (decide (R.length = y.length) && (solB y && (!anyB R.length (duL c.length R) && !anyB c.length (duN c R y))))) := rfl
  clear hR hc hy
  obtain ⟨r, hr⟩ : ∃ r, r = duB c R y := ⟨_, rfl⟩
  rw [← hr] at HG ⊢
  clear hr
  obtain ⟨inf, hi, iz0, iz1, iz2⟩ := info_parts infoC
  by_cases h1 : R.length = y.length
  case neg =>
    have Hf := Lib.hid (show false = r by rw [HG.out, decide_eq_false h1]; rfl)
    have e1 : ((R.length : Int) != (y.length : Int)) = true := by simp; omega
    clear h1
    go_enter Try.func26, Try.ntmps26
    go_wp2
    go_ret
    exact ⟨by rw [← Hf.out]; rfl, Below.refl _ _⟩
  case pos =>
    have e1 : ((R.length : Int) != (y.length : Int)) = false := by simp; omega
    have HG2 := Lib.hid (show r = (solB y && (!anyB R.length (duL c.length R) && !anyB c.length (duN c R y))) by rw [HG.out, decide_eq_true h1]; rfl)
    have H1 := Lib.hid h1
    clear h1
    cases e2 : solB y
    · have K2 := Lib.hid (e2 ▸ KS.out)
      have Hf := Lib.hid (show false = r by rw [HG2.out, e2]; rfl)
      clear e2
      go_enter Try.func26, Try.ntmps26
      go_wp2_with fail
      refine K2.out.mono ?_
      rintro e w3 ⟨rfl, hb3⟩
      go_wp2
      go_ret
      exact ⟨by rw [← Hf.out]; rfl, hb3⟩
    have K2 := Lib.hid (e2 ▸ KS.out)
    have HG3 := Lib.hid (show r = (!anyB R.length (duL c.length R) && !anyB c.length (duN c R y)) by rw [HG2.out, e2]; rfl)
    clear e2
    go_enter Try.func26, Try.ntmps26
    go_wp2_with fail
    refine K2.out.mono ?_
    rintro e w3 ⟨rfl, hb3⟩
    go_wp2
    clear e1
    go_loopw [27] (fun i wr => ∃ k : Nat, k ≤ R.length ∧ i = .int .i64 k ∧ Hid (anyB k (duL c.length R) = false) ∧ Below w.heap.size w wr) (fun i _ => R.length - (intOf i).toNat)
    case atStart => exact ⟨0, by omega, rfl, rfl, hb3⟩
    case round =>
      obtain ⟨k, hk, rfl, hB, hbel⟩ := hrel
      have hbz := hbel.size
      by_cases hlt : k < R.length
      · obtain ⟨b1, o1, ea, hb1, hc1⟩ := HR.out.at_ hlt
        subst ea
        obtain ⟨S, cS, d1, _, hS⟩ := hc1 k hlt
        have d1' := (hbel.cell (p := ⟨b1, o1 + k, none⟩) hb1).trans d1
        have g1 : b1 < wr.heap.size := by omega
        have k0 : (0 : Int) ≤ (k : Int) := by omega
        have k1 : (k : Int) < (R.length : Int) := by omega
        have HN : Hid (duL c.length R k = decide ((mr R k).length ≠ c.length)) := rfl
        have HL := Lib.hid hlt
        have lS := hS.len
        clear hc1 d1 hS
        by_cases h3 : (mr R k).length = c.length
        case neg =>
          have Hf := Lib.hid (show false = r by rw [HG3.out, anyB_true.2 ⟨k, HL.out, by rw [HN.out, decide_eq_true h3]⟩]; rfl)
          have e3 : (((mr R k).length : Int) != (c.length : Int)) = true := by simp; omega
          clear h3
          go_wp2
          go_ret
          exact ⟨by rw [← Hf.out]; rfl, hbel⟩
        case pos =>
          have e3 : (((mr R k).length : Int) != (c.length : Int)) = false := by simp; omega
          have Hs := Lib.hid (show anyB (k + 1) (duL c.length R) = false by rw [anyB_succ, hB.out, HN.out, decide_eq_false (by simpa using h3)]; rfl)
          clear h3
          go_wp2
          go_roundw
          case rel => exact ⟨k + 1, by omega, by go_num, Hs.out, hbel⟩
          case measure => simp [intOf]; omega
      · obtain rfl : R.length = k := by omega
        have HA := Lib.hid (show ∀ i, i < R.length → (mr R i).length = c.length from fun i hi => by
          have := anyB_false.1 hB.out i hi
          unfold duL at this
          simpa using this)
        have HG4 := Lib.hid (show r = !anyB c.length (duN c R y) by rw [HG3.out, hB.out]; rfl)
        clear hB HG3
        obtain ⟨ws, hws⟩ : ∃ ws : World, ws = wr := ⟨_, rfl⟩
        rw [← hws] at hbel hbz ⊢
        clear hws
        go_wp2
        go_loopw [39] (fun i wr => ∃ j : Nat, j ≤ c.length ∧ i = .int .i64 j ∧ Hid (anyB j (duN c R y) = false) ∧ Below w.heap.size w wr) (fun i _ => c.length - (intOf i).toNat)
        case atStart => exact ⟨0, by omega, rfl, rfl, hbel⟩
        case round =>
          clear hbel hbz
          obtain ⟨j, hj, rfl, hB, hbel3⟩ := hrel
          obtain ⟨wu, hwu⟩ : ∃ wu : World, wu = wr := ⟨_, rfl⟩
          rw [← hwu] at hbel3 ⊢
          clear hwu
          have hbz3 := hbel3.size
          by_cases hltj : j < c.length
          · obtain ⟨b2, o2, eb, hb2, hc2⟩ := Hc.out.at_ hltj
            subst eb
            have HC2 := Lib.hid (hc2 j hltj)
            have HN : Hid (duN c R y j = (decide ((dotF (cln R j R.length) y).2.2 ≠ 0) || (!prB (fv c j) (fx c j) || decide (cmpF (dotF (cln R j R.length) y).1 (dotF (cln R j R.length) y).2.1 (fv c j) (fx c j) < 0)))) := rfl
            have HL := Lib.hid hltj
            clear hc2
            have j0 : (0 : Int) ≤ (j : Int) := by omega
            have j1 : (j : Int) < (c.length : Int) := by omega
            go_wp2
            go_loopw [10, 44] (fun v i wr => ∃ (k : Nat) (A' : Option Addr) (c' : Nat), k ≤ R.length ∧ i = .int .i64 k ∧ v = .slice A' k c' ∧ Hid (wr.ownsRow wu.heap.size 29 2 (.slice A' k c') (cln R j k).length (fc (cln R j k))) ∧ Below wu.heap.size wu wr) (fun _ i _ => R.length - (intOf i).toNat)
            case atStart => exact ⟨0, none, 0, by omega, rfl, rfl, Lib.hid (World.ownsRow_nil _ _ _ _), Below.refl _ _⟩
            case round =>
              obtain ⟨k, A', c', hk, rfl, rfl, hown, hbel4⟩ := hrel
              have hbz4 := hbel4.size
              have Br4 := hbel3.trans (hbel4.mono hbz3)
              have Hl1 := Lib.hid (cln_len R j k)
              have Hl2 := Lib.hid (cln_len R j (k + 1))
              by_cases hltk : k < R.length
              · obtain ⟨b1, o1, ea, hb1, hc1⟩ := HR.out.at_ hltk
                subst ea
                obtain ⟨S, cS, d1, _, hS⟩ := hc1 k hltk
                have hlen := HA.out k hltk
                obtain ⟨b3, o3, es, hb3, hc3⟩ := hS.at_ (show j < (mr R k).length by omega)
                subst es
                have d1' := (Br4.cell (p := ⟨b1, o1 + k, none⟩) hb1).trans d1
                have d2' := (Br4.cell (p := ⟨b3, o3 + j * 2, none⟩) hb3).trans (hc3 j (by omega)).1
                have d3' := (Br4.cell (p := ⟨b3, o3 + j * 2 + 1, none⟩) hb3).trans (hc3 j (by omega)).2
                rw [hlen] at d1'
                have g1 : b1 < wr.heap.size := by have := Br4.size; omega
                have g3 : b3 < wr.heap.size := by have := Br4.size; omega
                have k0 : (0 : Int) ≤ (k : Int) := by omega
                have k1 : (k : Int) < (R.length : Int) := by omega
                have HSc := Lib.hid (cln_succ R j k)
                clear hc1 d1 hS hc3 hlen
                go_wp2_with (at_builtin; refine wpList_push rfl _ _ 22 rfl wu.heap.size 29 inf (.agg #[.int .i64 0, .int .i64 0]) 2 16 undC hi iz0 iz1 iz2 rfl (by decide) (by decide) _ (cln R j k).length (fc (cln R j k)) rfl (hown.out.alloc _) wr.heap.size 29 [.int .i64 (fv (mr R k) j), .int .i64 (fx (mr R k) j)] rfl rfl (heap_alloc_new _ _) (two_one rfl rfl) (by have := Hl1.out; omega) (by first | omega | (simp; omega)) (B := wu.heap.size) (W := wu) (hbel4.alloc hbz4 _) (Nat.le_refl _) ?_; intro v8 w8 ho8 hg8 hat8 hb8; have ho9 : w8.ownsRow wu.heap.size 29 2 v8 (cln R j (k + 1)).length (fc (cln R j (k + 1))) := (by rw [HSc.out, List.length_append, fc_app]; exact ho8); obtain ⟨A8, c8, rfl⟩ := own_shapeL ho9 Hl2.out; have Ho9 := Lib.hid ho9; clear ho8 ho9 hg8 hat8)
                go_roundw
                case rel => exact ⟨k + 1, A8, c8, by omega, by go_num, rfl, Ho9, hb8⟩
                case measure => simp [intOf]; omega
              · obtain rfl : R.length = k := by omega
                obtain ⟨A9', c9', hv, _, hF⟩ := own_fracs hown.out (by have := Hl1.out; omega)
                injection hv with hv1 hv2 hv3
                subst hv1
                have K3 := KD.out (cln R j R.length) A' c' wr Br4 hF
                rw [cln_len] at K3
                clear hv2 hv3 hF hown
                obtain ⟨⟨p, q, code⟩, hx⟩ : ∃ r, dotF (cln R j R.length) y = r := ⟨_, rfl⟩
                rw [hx] at K3
                have HN3 := Lib.hid (show duN c R y j = (decide (code ≠ 0) || (!prB (fv c j) (fx c j) || decide (cmpF p q (fv c j) (fx c j) < 0))) by rw [HN.out, hx])
                unfold RetFE at K3
                dsimp only at K3
                clear hx
                by_cases hcode : code = 0
                case neg =>
                  have Hf := Lib.hid (show false = r by rw [HG4.out, anyB_true.2 ⟨j, HL.out, by rw [HN3.out, decide_eq_true hcode]; rfl⟩]; rfl)
                  have HV := Lib.hid (errV_ne hcode)
                  simp only [HV.out] at K3
                  have K3' := Lib.hid K3
                  clear K3 hcode
                  go_wp2_with fail
                  refine K3'.out.mono ?_
                  rintro e w13 ⟨rfl, hb13⟩
                  have hb23 := Br4.trans (hb13.mono Br4.size)
                  have z23 := hb23.size
                  clear hb13
                  go_wp2_with fail
                  refine wp_region_G 18 (fun w' => True) (by kernel_rfl) (trivial) ?_
                  intro hG0
                  refine wpAnyG_any (i := 0) (v := ?_) rfl hG0 (by kernel_rfl) (by kernel_rfl) (by kernel_rfl) rfl (fun _ _ _ h => h) (Or.inl ⟨by rfl, ?_⟩) ?_; rotate_left; (intro wS hSw; (try dsimp only at hSw); first | (go_simp; done) | (go_simp; with_reducible rfl) | (simp [go_sem, ↓IntWalk.iteOmega, *]; done) | (simp [go_sem, ↓IntWalk.iteOmega, *]; with_reducible rfl)); (intro hG1); clear hG0; (try simp only [Act.put, List.setIfInBounds_toArray, List.set_cons_zero, List.set_cons_succ, List.getElem_toArray, List.getElem_cons_succ, List.getElem_cons_zero])
                  refine wpAnyG_any (i := 1) (v := ?_) rfl hG1 (by kernel_rfl) (by kernel_rfl) (by kernel_rfl) rfl (fun _ _ _ h => h) (Or.inl ⟨by rfl, ?_⟩) ?_; rotate_left; (intro wS hSw; (try dsimp only at hSw); first | (go_simp; done) | (go_simp; with_reducible rfl) | (simp [go_sem, ↓IntWalk.iteOmega, *]; done) | (simp [go_sem, ↓IntWalk.iteOmega, *]; with_reducible rfl)); (intro hG2); clear hG1; (try simp only [Act.put, List.setIfInBounds_toArray, List.set_cons_zero, List.set_cons_succ, List.getElem_toArray, List.getElem_cons_succ, List.getElem_cons_zero])
                  refine wpAnyG_any (i := 2) (v := .bool true) rfl hG2 (by kernel_rfl) (by kernel_rfl) (by kernel_rfl) rfl (fun _ _ _ h => h) (Or.inl ⟨by rfl, ?_⟩) ?_; (focus (intro wS hSw; (try dsimp only at hSw); (try go_simp); (try simp [go_sem, ↓IntWalk.iteOmega, *]))); (intro hG3); clear hG2; (try simp only [Act.put, List.setIfInBounds_toArray, List.set_cons_zero, List.set_cons_succ, List.getElem_toArray, List.getElem_cons_succ, List.getElem_cons_zero])
                  refine wpAnyG_any (i := 3) (v := undef) rfl hG3 (by kernel_rfl) (by kernel_rfl) (by kernel_rfl) rfl (fun _ _ _ h => h) (Or.inr ⟨by rfl, rfl⟩) ?_; (intro hG4); clear hG3; (try simp only [Act.put, List.setIfInBounds_toArray, List.set_cons_zero, List.set_cons_succ, List.getElem_toArray, List.getElem_cons_succ, List.getElem_cons_zero])
                  refine wpAnyG_any (i := 4) (v := undef) rfl hG4 (by kernel_rfl) (by kernel_rfl) (by kernel_rfl) rfl (fun _ _ _ h => h) (Or.inr ⟨by rfl, rfl⟩) ?_; (intro hG5); clear hG4; (try simp only [Act.put, List.setIfInBounds_toArray, List.set_cons_zero, List.set_cons_succ, List.getElem_toArray, List.getElem_cons_succ, List.getElem_cons_zero])
                  refine wpAnyG_any (i := 5) (v := undef) rfl hG5 (by kernel_rfl) (by kernel_rfl) (by kernel_rfl) rfl (fun _ _ _ h => h) (Or.inr ⟨by rfl, rfl⟩) ?_; (intro hG6); clear hG5; (try simp only [Act.put, List.setIfInBounds_toArray, List.set_cons_zero, List.set_cons_succ, List.getElem_toArray, List.getElem_cons_succ, List.getElem_cons_zero])
                  refine wpAnyG_any (i := 6) (v := undef) rfl hG6 (by kernel_rfl) (by kernel_rfl) (by kernel_rfl) rfl (fun _ _ _ h => h) (Or.inr ⟨by rfl, rfl⟩) ?_; (intro hG7); clear hG6; (try simp only [Act.put, List.setIfInBounds_toArray, List.set_cons_zero, List.set_cons_succ, List.getElem_toArray, List.getElem_cons_succ, List.getElem_cons_zero])
                  refine wpAnyG_any (i := 7) (v := undef) rfl hG7 (by kernel_rfl) (by kernel_rfl) (by kernel_rfl) rfl (fun _ _ _ h => h) (Or.inr ⟨by rfl, rfl⟩) ?_; (intro hG8); clear hG7; (try simp only [Act.put, List.setIfInBounds_toArray, List.set_cons_zero, List.set_cons_succ, List.getElem_toArray, List.getElem_cons_succ, List.getElem_cons_zero])
                  refine wpAnyG_any (i := 8) (v := undef) rfl hG8 (by kernel_rfl) (by kernel_rfl) (by kernel_rfl) rfl (fun _ _ _ h => h) (Or.inr ⟨by rfl, rfl⟩) ?_; (intro hG9); clear hG8; (try simp only [Act.put, List.setIfInBounds_toArray, List.set_cons_zero, List.set_cons_succ, List.getElem_toArray, List.getElem_cons_succ, List.getElem_cons_zero])
                  refine wpAnyG_any (i := 9) (v := ?_) rfl hG9 (by kernel_rfl) (by kernel_rfl) (by kernel_rfl) rfl (fun _ _ _ h => h) (Or.inl ⟨by rfl, ?_⟩) ?_; rotate_left; (intro wS hSw; (try dsimp only at hSw); first | (go_simp; done) | (go_simp; with_reducible rfl) | (simp [go_sem, ↓IntWalk.iteOmega, *]; done) | (simp [go_sem, ↓IntWalk.iteOmega, *]; with_reducible rfl)); (intro hG10); clear hG9; (try simp only [Act.put, List.setIfInBounds_toArray, List.set_cons_zero, List.set_cons_succ, List.getElem_toArray, List.getElem_cons_succ, List.getElem_cons_zero])
                  refine wpAnyG_any (i := 10) (v := .bool true) rfl hG10 (by kernel_rfl) (by kernel_rfl) (by kernel_rfl) rfl (fun _ _ _ h => h) (Or.inl ⟨by rfl, ?_⟩) ?_; (focus (intro wS hSw; (try dsimp only at hSw); (try go_simp); (try simp [go_sem, ↓IntWalk.iteOmega, *]))); (intro hG11); clear hG10; (try simp only [Act.put, List.setIfInBounds_toArray, List.set_cons_zero, List.set_cons_succ, List.getElem_toArray, List.getElem_cons_succ, List.getElem_cons_zero])
                  refine wpAnyG_any (i := 11) (v := undef) rfl hG11 (by kernel_rfl) (by kernel_rfl) (by kernel_rfl) rfl (fun _ _ _ h => h) (Or.inr ⟨by rfl, rfl⟩) ?_; (intro hG12); clear hG11; (try simp only [Act.put, List.setIfInBounds_toArray, List.set_cons_zero, List.set_cons_succ, List.getElem_toArray, List.getElem_cons_succ, List.getElem_cons_zero])
                  refine wpAnyG_any (i := 12) (v := undef) rfl hG12 (by kernel_rfl) (by kernel_rfl) (by kernel_rfl) rfl (fun _ _ _ h => h) (Or.inr ⟨by rfl, rfl⟩) ?_; (intro hG13); clear hG12; (try simp only [Act.put, List.setIfInBounds_toArray, List.set_cons_zero, List.set_cons_succ, List.getElem_toArray, List.getElem_cons_succ, List.getElem_cons_zero])
                  refine wpAnyG_any (i := 13) (v := undef) rfl hG13 (by kernel_rfl) (by kernel_rfl) (by kernel_rfl) rfl (fun _ _ _ h => h) (Or.inr ⟨by rfl, rfl⟩) ?_; (intro hG14); clear hG13; (try simp only [Act.put, List.setIfInBounds_toArray, List.set_cons_zero, List.set_cons_succ, List.getElem_toArray, List.getElem_cons_succ, List.getElem_cons_zero])
                  refine wpAnyG_any (i := 14) (v := undef) rfl hG14 (by kernel_rfl) (by kernel_rfl) (by kernel_rfl) rfl (fun _ _ _ h => h) (Or.inr ⟨by rfl, rfl⟩) ?_; (intro hG15); clear hG14; (try simp only [Act.put, List.setIfInBounds_toArray, List.set_cons_zero, List.set_cons_succ, List.getElem_toArray, List.getElem_cons_succ, List.getElem_cons_zero])
                  refine wpAnyG_any (i := 15) (v := undef) rfl hG15 (by kernel_rfl) (by kernel_rfl) (by kernel_rfl) rfl (fun _ _ _ h => h) (Or.inr ⟨by rfl, rfl⟩) ?_; (intro hG16); clear hG15; (try simp only [Act.put, List.setIfInBounds_toArray, List.set_cons_zero, List.set_cons_succ, List.getElem_toArray, List.getElem_cons_succ, List.getElem_cons_zero])
                  refine wpAnyG_any (i := 16) (v := undef) rfl hG16 (by kernel_rfl) (by kernel_rfl) (by kernel_rfl) rfl (fun _ _ _ h => h) (Or.inr ⟨by rfl, rfl⟩) ?_; (intro hG17); clear hG16; (try simp only [Act.put, List.setIfInBounds_toArray, List.set_cons_zero, List.set_cons_succ, List.getElem_toArray, List.getElem_cons_succ, List.getElem_cons_zero])
                  refine wpAnyG_any (i := 17) (v := undef) rfl hG17 (by kernel_rfl) (by kernel_rfl) (by kernel_rfl) rfl (fun _ _ _ h => h) (Or.inr ⟨by rfl, rfl⟩) ?_; (intro hG18); clear hG17; (try simp only [Act.put, List.setIfInBounds_toArray, List.set_cons_zero, List.set_cons_succ, List.getElem_toArray, List.getElem_cons_succ, List.getElem_cons_zero])
                  refine wpAnyG_ready (rs := [18]) (by kernel_rfl) (by simp) (AllG.cons rfl hG18 (fun K hK => ?_) AllG.nil)
                  (go_simp)
                  refine hK.out _ _ (Or.inl rfl) (fun hG19 => ?_); clear hK hG18; (try simp only [Act.put, List.setIfInBounds_toArray, List.set_cons_zero, List.set_cons_succ, List.getElem_toArray, List.getElem_cons_succ, List.getElem_cons_zero])
                  refine wpAnyG_done (by kernel_rfl) ?_ _; clear hG19
                  go_wp2
                  go_ret
                  exact ⟨by rw [← Hf.out]; rfl, by repeat (first | exact Below.refl _ _ | refine below_dN ?_ _ | refine Below.drew ?_ | refine Below.alloc ?_ (by first | omega | (simp; done) | (simp; omega)) _ | refine Below.setCell ?_ (by first | omega | (simp; done) | (simp; omega)) _ | refine below_step (by assumption) (by first | omega | (simp; done) | (simp; omega)) ?_)⟩
                case pos =>
                  subst hcode
                  have HN4 := Lib.hid (show duN c R y j = (!prB (fv c j) (fx c j) || decide (cmpF p q (fv c j) (fx c j) < 0)) by rw [HN3.out]; rfl)
                  simp only [errV_0] at K3
                  have K3' := Lib.hid K3
                  have KP := Lib.hid (fun wx => proper_any (fv c j) (fx c j) wx)
                  clear K3
                  obtain ⟨cv, hcv⟩ : ∃ cv, cv = cmpF p q (fv c j) (fx c j) := ⟨_, rfl⟩
                  have KC := Lib.hid (fun wx => (by have := cmp_any p q (fv c j) (fx c j) wx; rw [← hcv] at this; exact this : Calls Try.prog 18 #[.agg #[.int .i64 p, .int .i64 q], .agg #[.int .i64 (fv c j), .int .i64 (fx c j)]] wx fun e w' => e = .returned (.int .i64 cv) ∧ Below wx.heap.size wx w'))
                  rw [← hcv] at HN4
                  clear hcv
                  cases e4 : prB (fv c j) (fx c j)
                  case false =>
                    have Hf := Lib.hid (show false = r by rw [HG4.out, anyB_true.2 ⟨j, HL.out, by rw [HN4.out, e4]; rfl⟩]; rfl)
                    have K4 := Lib.hid (fun wx => e4 ▸ KP.out wx)
                    clear e4
                    go_wp2_with fail
                    refine K3'.out.mono ?_
                    rintro e w13 ⟨rfl, hb13⟩
                    have hb23 := Br4.trans (hb13.mono Br4.size)
                    have z23 := hb23.size
                    have d3 := (hb23.cell (p := ⟨b2, o2 + j * 2, none⟩) hb2).trans HC2.out.1
                    have d4 := (hb23.cell (p := ⟨b2, o2 + j * 2 + 1, none⟩) hb2).trans HC2.out.2
                    have g2 : b2 < w13.heap.size := by omega
                    clear hb13
                    go_wp2_with fail
                    refine wp_region_G 7 (fun w' => ∀ b o, w'.cell? ⟨b, o, none⟩ = if b < w13.heap.size + 1 then (w13.alloc (.cells #[.int .i64 p, .int .i64 q] 29)).cell? ⟨b, o, none⟩ else hidC w' b o) (by kernel_rfl) (cif (B := w13.heap.size + 1) (Below.refl _ _).drew) ?_
                    intro hG0
                    refine wpAnyG_any (i := 0) (v := ?_) rfl hG0 (by kernel_rfl) (by kernel_rfl) (by kernel_rfl) rfl (fun _ _ _ h => h) (Or.inl ⟨by rfl, ?_⟩) ?_; rotate_left; (intro wS hSw; (try dsimp only at hSw); first | (go_simp; done) | (go_simp; with_reducible rfl) | (simp [go_sem, ↓IntWalk.iteOmega, *]; done) | (simp [go_sem, ↓IntWalk.iteOmega, *]; with_reducible rfl)); (intro hG1); clear hG0; (try simp only [Act.put, List.setIfInBounds_toArray, List.set_cons_zero, List.set_cons_succ, List.getElem_toArray, List.getElem_cons_succ, List.getElem_cons_zero])
                    refine wpAnyG_any (i := 1) (v := ?_) rfl hG1 (by kernel_rfl) (by kernel_rfl) (by kernel_rfl) rfl (fun _ _ _ h => h) (Or.inl ⟨by rfl, ?_⟩) ?_; rotate_left; (intro wS hSw; (try dsimp only at hSw); first | (go_simp; done) | (go_simp; with_reducible rfl) | (simp [go_sem, ↓IntWalk.iteOmega, *]; done) | (simp [go_sem, ↓IntWalk.iteOmega, *]; with_reducible rfl)); (intro hG2); clear hG1; (try simp only [Act.put, List.setIfInBounds_toArray, List.set_cons_zero, List.set_cons_succ, List.getElem_toArray, List.getElem_cons_succ, List.getElem_cons_zero])
                    refine wpAnyG_any (i := 2) (v := .bool false) rfl hG2 (by kernel_rfl) (by kernel_rfl) (by kernel_rfl) rfl (fun _ _ _ h => h) (Or.inl ⟨by rfl, ?_⟩) ?_; (focus (intro wS hSw; (try dsimp only at hSw); (try go_simp); (try simp [go_sem, ↓IntWalk.iteOmega, *]))); (intro hG3); clear hG2; (try simp only [Act.put, List.setIfInBounds_toArray, List.set_cons_zero, List.set_cons_succ, List.getElem_toArray, List.getElem_cons_succ, List.getElem_cons_zero])
                    refine wpAnyG_any (i := 3) (v := ?_) rfl hG3 (by kernel_rfl) (by kernel_rfl) (by kernel_rfl) rfl (fun _ _ _ h => h) (Or.inl ⟨by rfl, ?_⟩) ?_; rotate_left; (intro wS hSw; (try dsimp only at hSw); first | (go_simp; done) | (go_simp; with_reducible rfl) | (simp [go_sem, ↓IntWalk.iteOmega, *]; done) | (simp [go_sem, ↓IntWalk.iteOmega, *]; with_reducible rfl)); (intro hG4); clear hG3; (try simp only [Act.put, List.setIfInBounds_toArray, List.set_cons_zero, List.set_cons_succ, List.getElem_toArray, List.getElem_cons_succ, List.getElem_cons_zero])
                    refine wpAnyG_any (i := 4) (v := ?_) rfl hG4 (by kernel_rfl) (by kernel_rfl) (by kernel_rfl) rfl (fun _ _ _ h => h) (Or.inl ⟨by rfl, ?_⟩) ?_; rotate_left; (intro wS hSw; (try dsimp only at hSw); first | (go_simp; done) | (go_simp; with_reducible rfl) | (simp [go_sem, ↓IntWalk.iteOmega, *]; done) | (simp [go_sem, ↓IntWalk.iteOmega, *]; with_reducible rfl)); (intro hG5); clear hG4; (try simp only [Act.put, List.setIfInBounds_toArray, List.set_cons_zero, List.set_cons_succ, List.getElem_toArray, List.getElem_cons_succ, List.getElem_cons_zero])
                    refine wpAnyG_any (i := 5) (v := ?_) rfl hG5 (by kernel_rfl) (by kernel_rfl) (by kernel_rfl) rfl (fun _ _ _ h => h) (Or.inl ⟨by rfl, ?_⟩) ?_; rotate_left; (intro wS hSw; (try dsimp only at hSw); first | (go_simp; done) | (go_simp; with_reducible rfl) | (simp [go_sem, ↓IntWalk.iteOmega, *]; done) | (simp [go_sem, ↓IntWalk.iteOmega, *]; with_reducible rfl)); (intro hG6); clear hG5; (try simp only [Act.put, List.setIfInBounds_toArray, List.set_cons_zero, List.set_cons_succ, List.getElem_toArray, List.getElem_cons_succ, List.getElem_cons_zero])
                    refine wpAnyG_take (i := 6) (v := ?_) rfl hG6 (by kernel_rfl) (by kernel_rfl) (by kernel_rfl) rfl (by kernel_rfl) (fun _ _ _ h => h) (Or.inl ⟨by rfl, ?_⟩) ?_; rotate_left; (intro wS hSw; (try dsimp only at hSw); first | (go_simp; done) | (go_simp; with_reducible rfl) | (simp [go_sem, ↓IntWalk.iteOmega, *]; done) | (simp [go_sem, ↓IntWalk.iteOmega, *]; with_reducible rfl)); (intro hG7); clear hG6; (try simp only [Act.put, List.setIfInBounds_toArray, List.set_cons_zero, List.set_cons_succ, List.getElem_toArray, List.getElem_cons_succ, List.getElem_cons_zero])
                    refine wpAnyG_ready (rs := [7]) (by kernel_rfl) (by simp) (AllG.cons rfl hG7 (fun K hK => ?_) AllG.nil)
                    refine (if_pos (by rfl)).mpr ?_
                    (go_simp; go_at_call 50; refine (K4.out _).mono ?_; rintro e w14 ⟨rfl, hb14⟩)
                    refine hK.out _ _ (Or.inl rfl) (fun hG8 => ?_); clear hK hG7; (try simp only [Act.put, List.setIfInBounds_toArray, List.set_cons_zero, List.set_cons_succ, List.getElem_toArray, List.getElem_cons_succ, List.getElem_cons_zero])
                    refine wpAnyG_any (i := 8) (v := ?_) rfl hG8 (by kernel_rfl) (by kernel_rfl) (by kernel_rfl) rfl (fun _ _ _ h => h) (Or.inl ⟨by rfl, ?_⟩) ?_; rotate_left; (intro wS hSw; (try dsimp only at hSw); first | (go_simp; done) | (go_simp; with_reducible rfl) | (simp [go_sem, ↓IntWalk.iteOmega, *]; done) | (simp [go_sem, ↓IntWalk.iteOmega, *]; with_reducible rfl)); (intro hG9); clear hG8; (try simp only [Act.put, List.setIfInBounds_toArray, List.set_cons_zero, List.set_cons_succ, List.getElem_toArray, List.getElem_cons_succ, List.getElem_cons_zero])
                    refine wpAnyG_any (i := 9) (v := ?_) rfl hG9 (by kernel_rfl) (by kernel_rfl) (by kernel_rfl) rfl (fun _ _ _ h => h) (Or.inl ⟨by rfl, ?_⟩) ?_; rotate_left; (intro wS hSw; (try dsimp only at hSw); first | (go_simp; done) | (go_simp; with_reducible rfl) | (simp [go_sem, ↓IntWalk.iteOmega, *]; done) | (simp [go_sem, ↓IntWalk.iteOmega, *]; with_reducible rfl)); (intro hG10); clear hG9; (try simp only [Act.put, List.setIfInBounds_toArray, List.set_cons_zero, List.set_cons_succ, List.getElem_toArray, List.getElem_cons_succ, List.getElem_cons_zero])
                    refine wpAnyG_any (i := 10) (v := .bool true) rfl hG10 (by kernel_rfl) (by kernel_rfl) (by kernel_rfl) rfl (fun _ _ _ h => h) (Or.inl ⟨by rfl, ?_⟩) ?_; (focus (intro wS hSw; (try dsimp only at hSw); (try go_simp); (try simp [go_sem, ↓IntWalk.iteOmega, *]))); (intro hG11); clear hG10; (try simp only [Act.put, List.setIfInBounds_toArray, List.set_cons_zero, List.set_cons_succ, List.getElem_toArray, List.getElem_cons_succ, List.getElem_cons_zero])
                    refine wpAnyG_any (i := 11) (v := undef) rfl hG11 (by kernel_rfl) (by kernel_rfl) (by kernel_rfl) rfl (fun _ _ _ h => h) (Or.inr ⟨by rfl, rfl⟩) ?_; (intro hG12); clear hG11; (try simp only [Act.put, List.setIfInBounds_toArray, List.set_cons_zero, List.set_cons_succ, List.getElem_toArray, List.getElem_cons_succ, List.getElem_cons_zero])
                    refine wpAnyG_any (i := 12) (v := undef) rfl hG12 (by kernel_rfl) (by kernel_rfl) (by kernel_rfl) rfl (fun _ _ _ h => h) (Or.inr ⟨by rfl, rfl⟩) ?_; (intro hG13); clear hG12; (try simp only [Act.put, List.setIfInBounds_toArray, List.set_cons_zero, List.set_cons_succ, List.getElem_toArray, List.getElem_cons_succ, List.getElem_cons_zero])
                    refine wpAnyG_any (i := 13) (v := undef) rfl hG13 (by kernel_rfl) (by kernel_rfl) (by kernel_rfl) rfl (fun _ _ _ h => h) (Or.inr ⟨by rfl, rfl⟩) ?_; (intro hG14); clear hG13; (try simp only [Act.put, List.setIfInBounds_toArray, List.set_cons_zero, List.set_cons_succ, List.getElem_toArray, List.getElem_cons_succ, List.getElem_cons_zero])
                    refine wpAnyG_any (i := 14) (v := undef) rfl hG14 (by kernel_rfl) (by kernel_rfl) (by kernel_rfl) rfl (fun _ _ _ h => h) (Or.inr ⟨by rfl, rfl⟩) ?_; (intro hG15); clear hG14; (try simp only [Act.put, List.setIfInBounds_toArray, List.set_cons_zero, List.set_cons_succ, List.getElem_toArray, List.getElem_cons_succ, List.getElem_cons_zero])
                    refine wpAnyG_any (i := 15) (v := undef) rfl hG15 (by kernel_rfl) (by kernel_rfl) (by kernel_rfl) rfl (fun _ _ _ h => h) (Or.inr ⟨by rfl, rfl⟩) ?_; (intro hG16); clear hG15; (try simp only [Act.put, List.setIfInBounds_toArray, List.set_cons_zero, List.set_cons_succ, List.getElem_toArray, List.getElem_cons_succ, List.getElem_cons_zero])
                    refine wpAnyG_any (i := 16) (v := undef) rfl hG16 (by kernel_rfl) (by kernel_rfl) (by kernel_rfl) rfl (fun _ _ _ h => h) (Or.inr ⟨by rfl, rfl⟩) ?_; (intro hG17); clear hG16; (try simp only [Act.put, List.setIfInBounds_toArray, List.set_cons_zero, List.set_cons_succ, List.getElem_toArray, List.getElem_cons_succ, List.getElem_cons_zero])
                    refine wpAnyG_any (i := 17) (v := undef) rfl hG17 (by kernel_rfl) (by kernel_rfl) (by kernel_rfl) rfl (fun _ _ _ h => h) (Or.inr ⟨by rfl, rfl⟩) ?_; (intro hG18); clear hG17; (try simp only [Act.put, List.setIfInBounds_toArray, List.set_cons_zero, List.set_cons_succ, List.getElem_toArray, List.getElem_cons_succ, List.getElem_cons_zero])
                    refine wpAnyG_any (i := 18) (v := ?_) rfl hG18 (by kernel_rfl) (by kernel_rfl) (by kernel_rfl) rfl (fun _ _ _ h => h) (Or.inl ⟨by rfl, ?_⟩) ?_; rotate_left; (intro wS hSw; (try dsimp only at hSw); first | (go_simp; done) | (go_simp; with_reducible rfl) | (simp [go_sem, ↓IntWalk.iteOmega, *]; done) | (simp [go_sem, ↓IntWalk.iteOmega, *]; with_reducible rfl)); (intro hG19); clear hG18; (try simp only [Act.put, List.setIfInBounds_toArray, List.set_cons_zero, List.set_cons_succ, List.getElem_toArray, List.getElem_cons_succ, List.getElem_cons_zero])
                    refine wpAnyG_done (by kernel_rfl) ?_ _; clear hG19
                    have hb24 := hb23.trans ((((Below.refl w13.heap.size w13).alloc (Nat.le_refl _) (.cells #[.int .i64 p, .int .i64 q] 29)).drew.trans (hb14.mono (by simp))).mono z23)
                    clear hb14
                    go_wp2
                    go_ret
                    exact ⟨by rw [← Hf.out]; rfl, hb24⟩
                  case true =>
                    have HN5 := Lib.hid (show duN c R y j = decide (cv < 0) by rw [HN4.out, e4]; rfl)
                    have K4 := Lib.hid (fun wx => e4 ▸ KP.out wx)
                    clear e4
                    cases e5 : decide (cv < 0)
                    all_goals
                      have HN6 := Lib.hid (HN5.out.trans e5)
                      go_wp2_with fail
                      refine K3'.out.mono ?_
                      rintro e w13 ⟨rfl, hb13⟩
                      have hb23 := Br4.trans (hb13.mono Br4.size)
                      have z23 := hb23.size
                      have d3 := (hb23.cell (p := ⟨b2, o2 + j * 2, none⟩) hb2).trans HC2.out.1
                      have d4 := (hb23.cell (p := ⟨b2, o2 + j * 2 + 1, none⟩) hb2).trans HC2.out.2
                      have g2 : b2 < w13.heap.size := by omega
                      clear hb13
                      go_wp2_with fail
                      refine wp_region_G 16 (fun w' => ∀ b o, w'.cell? ⟨b, o, none⟩ = if b < w13.heap.size + 1 then (w13.alloc (.cells #[.int .i64 p, .int .i64 q] 29)).cell? ⟨b, o, none⟩ else hidC w' b o) (by kernel_rfl) (cif (B := w13.heap.size + 1) (Below.refl _ _).drew) ?_
                      intro hG0
                      refine wpAnyG_any (i := 0) (v := ?_) rfl hG0 (by kernel_rfl) (by kernel_rfl) (by kernel_rfl) rfl (fun _ _ _ h => h) (Or.inl ⟨by rfl, ?_⟩) ?_; rotate_left; (intro wS hSw; (try dsimp only at hSw); first | (go_simp; done) | (go_simp; with_reducible rfl) | (simp [go_sem, ↓IntWalk.iteOmega, *]; done) | (simp [go_sem, ↓IntWalk.iteOmega, *]; with_reducible rfl)); (intro hG1); clear hG0; (try simp only [Act.put, List.setIfInBounds_toArray, List.set_cons_zero, List.set_cons_succ, List.getElem_toArray, List.getElem_cons_succ, List.getElem_cons_zero])
                      refine wpAnyG_any (i := 1) (v := ?_) rfl hG1 (by kernel_rfl) (by kernel_rfl) (by kernel_rfl) rfl (fun _ _ _ h => h) (Or.inl ⟨by rfl, ?_⟩) ?_; rotate_left; (intro wS hSw; (try dsimp only at hSw); first | (go_simp; done) | (go_simp; with_reducible rfl) | (simp [go_sem, ↓IntWalk.iteOmega, *]; done) | (simp [go_sem, ↓IntWalk.iteOmega, *]; with_reducible rfl)); (intro hG2); clear hG1; (try simp only [Act.put, List.setIfInBounds_toArray, List.set_cons_zero, List.set_cons_succ, List.getElem_toArray, List.getElem_cons_succ, List.getElem_cons_zero])
                      refine wpAnyG_any (i := 2) (v := .bool false) rfl hG2 (by kernel_rfl) (by kernel_rfl) (by kernel_rfl) rfl (fun _ _ _ h => h) (Or.inl ⟨by rfl, ?_⟩) ?_; (focus (intro wS hSw; (try dsimp only at hSw); (try go_simp); (try simp [go_sem, ↓IntWalk.iteOmega, *]))); (intro hG3); clear hG2; (try simp only [Act.put, List.setIfInBounds_toArray, List.set_cons_zero, List.set_cons_succ, List.getElem_toArray, List.getElem_cons_succ, List.getElem_cons_zero])
                      refine wpAnyG_any (i := 3) (v := ?_) rfl hG3 (by kernel_rfl) (by kernel_rfl) (by kernel_rfl) rfl (fun _ _ _ h => h) (Or.inl ⟨by rfl, ?_⟩) ?_; rotate_left; (intro wS hSw; (try dsimp only at hSw); first | (go_simp; done) | (go_simp; with_reducible rfl) | (simp [go_sem, ↓IntWalk.iteOmega, *]; done) | (simp [go_sem, ↓IntWalk.iteOmega, *]; with_reducible rfl)); (intro hG4); clear hG3; (try simp only [Act.put, List.setIfInBounds_toArray, List.set_cons_zero, List.set_cons_succ, List.getElem_toArray, List.getElem_cons_succ, List.getElem_cons_zero])
                      refine wpAnyG_any (i := 4) (v := ?_) rfl hG4 (by kernel_rfl) (by kernel_rfl) (by kernel_rfl) rfl (fun _ _ _ h => h) (Or.inl ⟨by rfl, ?_⟩) ?_; rotate_left; (intro wS hSw; (try dsimp only at hSw); first | (go_simp; done) | (go_simp; with_reducible rfl) | (simp [go_sem, ↓IntWalk.iteOmega, *]; done) | (simp [go_sem, ↓IntWalk.iteOmega, *]; with_reducible rfl)); (intro hG5); clear hG4; (try simp only [Act.put, List.setIfInBounds_toArray, List.set_cons_zero, List.set_cons_succ, List.getElem_toArray, List.getElem_cons_succ, List.getElem_cons_zero])
                      refine wpAnyG_any (i := 5) (v := ?_) rfl hG5 (by kernel_rfl) (by kernel_rfl) (by kernel_rfl) rfl (fun _ _ _ h => h) (Or.inl ⟨by rfl, ?_⟩) ?_; rotate_left; (intro wS hSw; (try dsimp only at hSw); first | (go_simp; done) | (go_simp; with_reducible rfl) | (simp [go_sem, ↓IntWalk.iteOmega, *]; done) | (simp [go_sem, ↓IntWalk.iteOmega, *]; with_reducible rfl)); (intro hG6); clear hG5; (try simp only [Act.put, List.setIfInBounds_toArray, List.set_cons_zero, List.set_cons_succ, List.getElem_toArray, List.getElem_cons_succ, List.getElem_cons_zero])
                      refine wpAnyG_take (i := 6) (v := ?_) rfl hG6 (by kernel_rfl) (by kernel_rfl) (by kernel_rfl) rfl (by kernel_rfl) (fun _ _ _ h => h) (Or.inl ⟨by rfl, ?_⟩) ?_; rotate_left; (intro wS hSw; (try dsimp only at hSw); first | (go_simp; done) | (go_simp; with_reducible rfl) | (simp [go_sem, ↓IntWalk.iteOmega, *]; done) | (simp [go_sem, ↓IntWalk.iteOmega, *]; with_reducible rfl)); (intro hG7); clear hG6; (try simp only [Act.put, List.setIfInBounds_toArray, List.set_cons_zero, List.set_cons_succ, List.getElem_toArray, List.getElem_cons_succ, List.getElem_cons_zero])
                      refine wpAnyG_ready (rs := [7]) (by kernel_rfl) (by simp) (AllG.cons rfl hG7 (fun K hK => ?_) AllG.nil)
                      refine (if_pos (by rfl)).mpr ?_
                      (go_simp; go_at_call 50; refine (K4.out _).mono ?_; rintro e w14 ⟨rfl, hb14⟩)
                      refine hK.out _ _ (Or.inr (cif (by repeat (first | exact Below.refl _ _ | refine below_dN ?_ _ | refine Below.drew ?_ | refine Below.alloc ?_ (by first | omega | (simp; done) | (simp; omega)) _ | refine Below.setCell ?_ (by first | omega | (simp; done) | (simp; omega)) _ | refine below_step (by assumption) (by first | omega | (simp; done) | (simp; omega)) ?_)))) (fun hG8 => ?_); clear hK hG7; (try simp only [Act.put, List.setIfInBounds_toArray, List.set_cons_zero, List.set_cons_succ, List.getElem_toArray, List.getElem_cons_succ, List.getElem_cons_zero])
                      refine wpAnyG_any (i := 8) (v := ?_) rfl hG8 (by kernel_rfl) (by kernel_rfl) (by kernel_rfl) rfl (fun _ _ _ h => h) (Or.inl ⟨by rfl, ?_⟩) ?_; rotate_left; (intro wS hSw; (try dsimp only at hSw); first | (go_simp; done) | (go_simp; with_reducible rfl) | (simp [go_sem, ↓IntWalk.iteOmega, *]; done) | (simp [go_sem, ↓IntWalk.iteOmega, *]; with_reducible rfl)); (intro hG9); clear hG8; (try simp only [Act.put, List.setIfInBounds_toArray, List.set_cons_zero, List.set_cons_succ, List.getElem_toArray, List.getElem_cons_succ, List.getElem_cons_zero])
                      refine wpAnyG_any (i := 9) (v := ?_) rfl hG9 (by kernel_rfl) (by kernel_rfl) (by kernel_rfl) rfl (fun _ _ _ h => h) (Or.inl ⟨by rfl, ?_⟩) ?_; rotate_left; (intro wS hSw; (try dsimp only at hSw); first | (go_simp; done) | (go_simp; with_reducible rfl) | (simp [go_sem, ↓IntWalk.iteOmega, *]; done) | (simp [go_sem, ↓IntWalk.iteOmega, *]; with_reducible rfl)); (intro hG10); clear hG9; (try simp only [Act.put, List.setIfInBounds_toArray, List.set_cons_zero, List.set_cons_succ, List.getElem_toArray, List.getElem_cons_succ, List.getElem_cons_zero])
                      refine wpAnyG_any (i := 10) (v := .bool false) rfl hG10 (by kernel_rfl) (by kernel_rfl) (by kernel_rfl) rfl (fun _ _ _ h => h) (Or.inl ⟨by rfl, ?_⟩) ?_; (focus (intro wS hSw; (try dsimp only at hSw); (try go_simp); (try simp [go_sem, ↓IntWalk.iteOmega, *]))); (intro hG11); clear hG10; (try simp only [Act.put, List.setIfInBounds_toArray, List.set_cons_zero, List.set_cons_succ, List.getElem_toArray, List.getElem_cons_succ, List.getElem_cons_zero])
                      refine wpAnyG_take (i := 11) (v := ?_) rfl hG11 (by kernel_rfl) (by kernel_rfl) (by kernel_rfl) rfl (by kernel_rfl) (fun _ _ _ h => h) (Or.inl ⟨by rfl, ?_⟩) ?_; rotate_left; (intro wS hSw; (try dsimp only at hSw); first | (go_simp; done) | (go_simp; with_reducible rfl) | (simp [go_sem, ↓IntWalk.iteOmega, *]; done) | (simp [go_sem, ↓IntWalk.iteOmega, *]; with_reducible rfl)); (intro hG12); clear hG11; (try simp only [Act.put, List.setIfInBounds_toArray, List.set_cons_zero, List.set_cons_succ, List.getElem_toArray, List.getElem_cons_succ, List.getElem_cons_zero])
                      refine wpAnyG_any (i := 12) (v := ?_) rfl hG12 (by kernel_rfl) (by kernel_rfl) (by kernel_rfl) rfl (fun _ _ _ h => h) (Or.inl ⟨by rfl, ?_⟩) ?_; rotate_left; (intro wS hSw; (try dsimp only at hSw); first | (go_simp; done) | (go_simp; with_reducible rfl) | (simp [go_sem, ↓IntWalk.iteOmega, *]; done) | (simp [go_sem, ↓IntWalk.iteOmega, *]; with_reducible rfl)); (intro hG13); clear hG12; (try simp only [Act.put, List.setIfInBounds_toArray, List.set_cons_zero, List.set_cons_succ, List.getElem_toArray, List.getElem_cons_succ, List.getElem_cons_zero])
                      refine wpAnyG_any (i := 13) (v := ?_) rfl hG13 (by kernel_rfl) (by kernel_rfl) (by kernel_rfl) rfl (fun _ _ _ h => h) (Or.inl ⟨by rfl, ?_⟩) ?_; rotate_left; (intro wS hSw; (try dsimp only at hSw); first | (go_simp; done) | (go_simp; with_reducible rfl) | (simp [go_sem, ↓IntWalk.iteOmega, *]; done) | (simp [go_sem, ↓IntWalk.iteOmega, *]; with_reducible rfl)); (intro hG14); clear hG13; (try simp only [Act.put, List.setIfInBounds_toArray, List.set_cons_zero, List.set_cons_succ, List.getElem_toArray, List.getElem_cons_succ, List.getElem_cons_zero])
                      refine wpAnyG_any (i := 14) (v := ?_) rfl hG14 (by kernel_rfl) (by kernel_rfl) (by kernel_rfl) rfl (fun _ _ _ h => h) (Or.inl ⟨by rfl, ?_⟩) ?_; rotate_left; (intro wS hSw; (try dsimp only at hSw); first | (go_simp; done) | (go_simp; with_reducible rfl) | (simp [go_sem, ↓IntWalk.iteOmega, *]; done) | (simp [go_sem, ↓IntWalk.iteOmega, *]; with_reducible rfl)); (intro hG15); clear hG14; (try simp only [Act.put, List.setIfInBounds_toArray, List.set_cons_zero, List.set_cons_succ, List.getElem_toArray, List.getElem_cons_succ, List.getElem_cons_zero])
                      refine wpAnyG_take (i := 15) (v := ?_) rfl hG15 (by kernel_rfl) (by kernel_rfl) (by kernel_rfl) rfl (by kernel_rfl) (fun _ _ _ h => h) (Or.inl ⟨by rfl, ?_⟩) ?_; rotate_left; (intro wS hSw; (try dsimp only at hSw); first | (go_simp; done) | (go_simp; with_reducible rfl) | (simp [go_sem, ↓IntWalk.iteOmega, *]; done) | (simp [go_sem, ↓IntWalk.iteOmega, *]; with_reducible rfl)); (intro hG16); clear hG15; (try simp only [Act.put, List.setIfInBounds_toArray, List.set_cons_zero, List.set_cons_succ, List.getElem_toArray, List.getElem_cons_succ, List.getElem_cons_zero])
                      refine wpAnyG_ready (rs := [16]) (by kernel_rfl) (by simp) (AllG.cons rfl hG16 (fun K hK => ?_) AllG.nil)
                      refine (if_pos (by rfl)).mpr ?_
                      (go_simp; go_at_call 18; refine (KC.out _).mono ?_; rintro e w15 ⟨rfl, hb15⟩)
                      refine hK.out _ _ (Or.inl rfl) (fun hG17 => ?_); clear hK hG16; (try simp only [Act.put, List.setIfInBounds_toArray, List.set_cons_zero, List.set_cons_succ, List.getElem_toArray, List.getElem_cons_succ, List.getElem_cons_zero])
                      refine wpAnyG_any (i := 17) (v := ?_) rfl hG17 (by kernel_rfl) (by kernel_rfl) (by kernel_rfl) rfl (fun _ _ _ h => h) (Or.inl ⟨by rfl, ?_⟩) ?_; rotate_left; (intro wS hSw; (try dsimp only at hSw); first | (go_simp; done) | (go_simp; with_reducible rfl) | (simp [go_sem, ↓IntWalk.iteOmega, *]; done) | (simp [go_sem, ↓IntWalk.iteOmega, *]; with_reducible rfl)); (intro hG18); clear hG17; (try simp only [Act.put, List.setIfInBounds_toArray, List.set_cons_zero, List.set_cons_succ, List.getElem_toArray, List.getElem_cons_succ, List.getElem_cons_zero])
                      refine wpAnyG_any (i := 18) (v := ?_) rfl hG18 (by kernel_rfl) (by kernel_rfl) (by kernel_rfl) rfl (fun _ _ _ h => h) (Or.inl ⟨by rfl, ?_⟩) ?_; rotate_left; (intro wS hSw; (try dsimp only at hSw); first | (go_simp; done) | (go_simp; with_reducible rfl) | (simp [go_sem, ↓IntWalk.iteOmega, *]; done) | (simp [go_sem, ↓IntWalk.iteOmega, *]; with_reducible rfl)); (intro hG19); clear hG18; (try simp only [Act.put, List.setIfInBounds_toArray, List.set_cons_zero, List.set_cons_succ, List.getElem_toArray, List.getElem_cons_succ, List.getElem_cons_zero])
                      refine wpAnyG_done (by kernel_rfl) ?_ _; clear hG19
                    all_goals
                      have hb24 := hb23.trans ((((Below.refl w13.heap.size w13).alloc (Nat.le_refl _) (.cells #[.int .i64 p, .int .i64 q] 29)).drew.trans (hb14.mono (by simp))).mono z23)
                      have z24 := hb24.size
                      have hb25 := hb24.trans (hb15.mono z24)
                      clear hb14 hb15
                    · have Hs := Lib.hid (show anyB (j + 1) (duN c R y) = false by rw [anyB_succ, hB.out, HN6.out]; rfl)
                      go_wp2
                      go_roundw
                      case rel => exact ⟨j + 1, by omega, by go_num, Hs.out, hb25⟩
                      case measure => simp [intOf]; omega
                    · have Hf := Lib.hid (show false = r by rw [HG4.out, anyB_true.2 ⟨j, HL.out, HN6.out⟩]; rfl)
                      go_wp2
                      go_ret
                      exact ⟨by rw [← Hf.out]; rfl, hb25⟩
          · obtain rfl : c.length = j := by omega
            have Ht := Lib.hid (show true = r by rw [HG4.out, hB.out]; rfl)
            go_wp2
            go_ret
            exact ⟨by rw [← Ht.out]; rfl, hbel3⟩

end Go.Proofs.Ytaomaopbdilmnaa
