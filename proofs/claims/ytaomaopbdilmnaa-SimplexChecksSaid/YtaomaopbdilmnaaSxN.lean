/- simplex: Feasible. -/
import Derived.Test.YtaomaopbdilmnaaSxM
namespace Go.Proofs.Ytaomaopbdilmnaa
set_option linter.unusedSimpArgs false
set_option linter.unusedVariables false
open Go Go.RowKit
set_option linter.unusedVariables false

/-- Row k is not kept. -/
def feN (R : List (List (Int × Int))) (b x : List (Int × Int)) (k : Nat) : Bool :=
  decide ((mr R k).length ≠ x.length) || (decide ((dotF (mr R k) x).2.2 ≠ 0) || (!prB (fv b k) (fx b k) || decide (0 < cmpF (dotF (mr R k) x).1 (dotF (mr R k) x).2.1 (fv b k) (fx b k))))
def feB (R : List (List (Int × Int))) (b x : List (Int × Int)) : Bool := decide (R.length = b.length) && (solB x && !anyB R.length (feN R b x))

set_option maxRecDepth 100000 in
set_option maxHeartbeats 8000000 in
theorem feasible_any (R : List (List (Int × Int))) (b x : List (Int × Int)) (AR Ab Ax : Option Addr) (cR cb cx : Nat) (w : World) (hR : MxAt w AR R) (hb : FactsAt w w.heap.size Ab b) (hx : FactsAt w w.heap.size Ax x) :
    Calls Try.prog 25 #[.slice AR R.length cR, .slice Ab b.length cb, .slice Ax x.length cx] w fun e w' => e = .returned (.bool (feB R b x)) ∧ Below w.heap.size w w' := by
  have lR := hR.1
  have lb := hb.len
  have lx := hx.len
  have HR := Lib.hid hR
  have Hb := Lib.hid hb
  have KS := Lib.hid (solution_any x Ax cx w hx)
  have KD := Lib.hid (fun l A cl wx (h : Below w.heap.size w wx) (hl : FactsAt wx wx.heap.size A l) => dot_any l x A Ax cl cx wx hl (factsAt_up hx h))
  have HG : Hid (feB R b x = (decide (R.length = b.length) && (solB x && !anyB R.length (feN R b x)))) := rfl
  clear hR hb hx
  obtain ⟨r, hr⟩ : ∃ r, r = feB R b x := ⟨_, rfl⟩
  rw [← hr] at HG ⊢
  clear hr
  by_cases h1 : R.length = b.length
  case neg =>
    have Hf := Lib.hid (show false = r by rw [HG.out, decide_eq_false h1]; rfl)
    have e1 : ((R.length : Int) != (b.length : Int)) = true := by simp; omega
    clear h1
    go_enter Try.func25, Try.ntmps25
    go_wp2
    go_ret
    exact ⟨by rw [← Hf.out]; rfl, Below.refl _ _⟩
  case pos =>
    have e1 : ((R.length : Int) != (b.length : Int)) = false := by simp; omega
    have HG2 := Lib.hid (show r = (solB x && !anyB R.length (feN R b x)) by rw [HG.out, decide_eq_true h1]; rfl)
    have H1 := Lib.hid h1
    clear h1
    cases e2 : solB x
    · have K2 := Lib.hid (e2 ▸ KS.out)
      have Hf := Lib.hid (show false = r by rw [HG2.out, e2]; rfl)
      clear e2
      go_enter Try.func25, Try.ntmps25
      go_wp2_with fail
      refine K2.out.mono ?_
      rintro e w3 ⟨rfl, hb3⟩
      go_wp2
      go_ret
      exact ⟨by rw [← Hf.out]; rfl, hb3⟩
    have K2 := Lib.hid (e2 ▸ KS.out)
    have HG3 := Lib.hid (show r = !anyB R.length (feN R b x) by rw [HG2.out, e2]; rfl)
    clear e2
    go_enter Try.func25, Try.ntmps25
    go_wp2_with fail
    refine K2.out.mono ?_
    rintro e w3 ⟨rfl, hb3⟩
    go_wp2
    clear e1
    go_loopw [23] (fun i wr => ∃ k : Nat, k ≤ R.length ∧ i = .int .i64 k ∧ Hid (anyB k (feN R b x) = false) ∧ Below w.heap.size w wr) (fun i _ => R.length - (intOf i).toNat)
    case atStart => exact ⟨0, by omega, rfl, rfl, hb3⟩
    case round =>
      obtain ⟨k, hk, rfl, hB, hbel⟩ := hrel
      have hbz := hbel.size
      by_cases hlt : k < R.length
      · obtain ⟨b1, o1, ea, hb1, hc1⟩ := HR.out.at_ hlt
        subst ea
        obtain ⟨S, cS, d1, _, hS⟩ := hc1 k hlt
        have d1' := (hbel.cell (p := ⟨b1, o1 + k, none⟩) hb1).trans d1
        have g1 : b1 < wr.heap.size := by omega
        have hlt2 : k < b.length := by have := H1.out; omega
        obtain ⟨b2, o2, eb, hb2, hc2⟩ := Hb.out.at_ hlt2
        subst eb
        have k0 : (0 : Int) ≤ (k : Int) := by omega
        have k1 : (k : Int) < (R.length : Int) := by omega
        have k2 : (k : Int) < (b.length : Int) := by omega
        have lS := hS.len
        have HN : Hid (feN R b x k = (decide ((mr R k).length ≠ x.length) || (decide ((dotF (mr R k) x).2.2 ≠ 0) || (!prB (fv b k) (fx b k) || decide (0 < cmpF (dotF (mr R k) x).1 (dotF (mr R k) x).2.1 (fv b k) (fx b k)))))) := rfl
        have K3 := KD.out (mr R k) S cS wr hbel (factsAt_up hS hbel)
        have HC := Lib.hid (hc2 k hlt2)
        have HL := Lib.hid hlt
        clear hc1 hc2 d1 hS
        by_cases h3 : (mr R k).length = x.length
        case neg =>
          have Hf := Lib.hid (show false = r by rw [HG3.out, anyB_true.2 ⟨k, HL.out, by rw [HN.out, decide_eq_true h3]; rfl⟩]; rfl)
          have e3 : (((mr R k).length : Int) != (x.length : Int)) = true := by simp; omega
          clear h3 K3
          go_wp2
          go_ret
          exact ⟨by rw [← Hf.out]; rfl, hbel⟩
        case pos =>
          have e3 : (((mr R k).length : Int) != (x.length : Int)) = false := by simp; omega
          have HN2 := Lib.hid (show feN R b x k = (decide ((dotF (mr R k) x).2.2 ≠ 0) || (!prB (fv b k) (fx b k) || decide (0 < cmpF (dotF (mr R k) x).1 (dotF (mr R k) x).2.1 (fv b k) (fx b k)))) by rw [HN.out, decide_eq_false (by simpa using h3)]; rfl)
          clear h3
          obtain ⟨⟨p, q, code⟩, hx⟩ : ∃ r, dotF (mr R k) x = r := ⟨_, rfl⟩
          rw [hx] at K3
          have HN3 := Lib.hid (show feN R b x k = (decide (code ≠ 0) || (!prB (fv b k) (fx b k) || decide (0 < cmpF p q (fv b k) (fx b k)))) by rw [HN2.out, hx])
          unfold RetFE at K3
          dsimp only at K3
          clear hx
          by_cases hcode : code = 0
          case neg =>
            have Hf := Lib.hid (show false = r by rw [HG3.out, anyB_true.2 ⟨k, HL.out, by rw [HN3.out, decide_eq_true hcode]; rfl⟩]; rfl)
            have HV := Lib.hid (errV_ne hcode)
            simp only [HV.out] at K3
            have K3' := Lib.hid K3
            clear K3 hcode
            go_wp2_with fail
            refine K3'.out.mono ?_
            rintro e w13 ⟨rfl, hb13⟩
            have hb23 := hbel.trans (hb13.mono hbz)
            have z23 := hb23.size
            clear hb13
            go_wp2_with fail
            refine wp_region_G 18 (fun w' => True) (by kernel_rfl) (trivial) ?_
            intro hG0
            refine wpAnyG_any (i := 0) (v := ?_) rfl hG0 (by kernel_rfl) (by kernel_rfl) (by kernel_rfl) rfl (fun _ _ _ h => h) (Or.inl ⟨by rfl, ?_⟩) ?_; rotate_left; (intro wS hSw; (try dsimp only at hSw); first | (go_simp; done) | (go_simp; with_reducible rfl) | (simp [go_sem, ↓IntWalk.iteOmega, *]; done) | (simp [go_sem, ↓IntWalk.iteOmega, *]; with_reducible rfl)); (intro hG1); clear hG0; (try simp only [Act.put, List.setIfInBounds_toArray, List.set_cons_zero, List.set_cons_succ, List.getElem_toArray, List.getElem_cons_succ, List.getElem_cons_zero])
            refine wpAnyG_any (i := 1) (v := ?_) rfl hG1 (by kernel_rfl) (by kernel_rfl) (by kernel_rfl) rfl (fun _ _ _ h => h) (Or.inl ⟨by rfl, ?_⟩) ?_; rotate_left; (intro wS hSw; (try dsimp only at hSw); first | (go_simp; done) | (go_simp; with_reducible rfl) | (simp [go_sem, ↓IntWalk.iteOmega, *]; done) | (simp [go_sem, ↓IntWalk.iteOmega, *]; with_reducible rfl)); (intro hG2); clear hG1; (try simp only [Act.put, List.setIfInBounds_toArray, List.set_cons_zero, List.set_cons_succ, List.getElem_toArray, List.getElem_cons_succ, List.getElem_cons_zero])
            refine wpAnyG_any (i := 2) (v := .bool true) rfl hG2 (by kernel_rfl) (by kernel_rfl) (by kernel_rfl) rfl (fun _ _ _ h => h) (Or.inl ⟨by rfl, ?_⟩) ?_; (focus (intro wS hSw; (try dsimp only at hSw); (try go_simp); (try simp [go_sem, ↓IntWalk.iteOmega, *]))); (intro hG3); clear hG2; (try simp only [Act.put, List.setIfInBounds_toArray, List.set_cons_zero, List.set_cons_succ, List.getElem_toArray, List.getElem_cons_succ, List.getElem_cons_zero])
            refine wpAnyG_any (i := 3) (v := undef) rfl hG3 (by kernel_rfl) (by kernel_rfl) (by kernel_rfl) rfl (fun _ _ _ h => h) (Or.inr ⟨by rfl, rfl⟩) ?_; (intro hG4); clear hG3; (try simp only [Act.put, List.setIfInBounds_toArray, List.set_cons_zero, List.set_cons_succ, List.getElem_toArray, List.getElem_cons_succ, List.getElem_cons_zero])
            refine wpAnyG_any (i := 4) (v := undef) rfl hG4 (by kernel_rfl) (by kernel_rfl) (by kernel_rfl) rfl (fun _ _ _ h => h) (Or.inr ⟨by rfl, rfl⟩) ?_; (intro hG5); clear hG4; (try simp only [Act.put, List.setIfInBounds_toArray, List.set_cons_zero, List.set_cons_succ, List.getElem_toArray, List.getElem_cons_succ, List.getElem_cons_zero])
            refine wpAnyG_any (i := 5) (v := undef) rfl hG5 (by kernel_rfl) (by kernel_rfl) (by kernel_rfl) rfl (fun _ _ _ h => h) (Or.inr ⟨by rfl, rfl⟩) ?_; (intro hG6); clear hG5; (try simp only [Act.put, List.setIfInBounds_toArray, List.set_cons_zero, List.set_cons_succ, List.getElem_toArray, List.getElem_cons_succ, List.getElem_cons_zero])
            refine wpAnyG_any (i := 6) (v := undef) rfl hG6 (by kernel_rfl) (by kernel_rfl) (by kernel_rfl) rfl (fun _ _ _ h => h) (Or.inr ⟨by rfl, rfl⟩) ?_; (intro hG7); clear hG6; (try simp only [Act.put, List.setIfInBounds_toArray, List.set_cons_zero, List.set_cons_succ, List.getElem_toArray, List.getElem_cons_succ, List.getElem_cons_zero])
            refine wpAnyG_any (i := 7) (v := undef) rfl hG7 (by kernel_rfl) (by kernel_rfl) (by kernel_rfl) rfl (fun _ _ _ h => h) (Or.inr ⟨by rfl, rfl⟩) ?_; (intro hG8); clear hG7; (try simp only [Act.put, List.setIfInBounds_toArray, List.set_cons_zero, List.set_cons_succ, List.getElem_toArray, List.getElem_cons_succ, List.getElem_cons_zero])
            refine wpAnyG_any (i := 8) (v := undef) rfl hG8 (by kernel_rfl) (by kernel_rfl) (by kernel_rfl) rfl (fun _ _ _ h => h) (Or.inr ⟨by rfl, rfl⟩) ?_; (intro hG9); clear hG8; (try simp only [Act.put, List.setIfInBounds_toArray, List.set_cons_zero, List.set_cons_succ, List.getElem_toArray, List.getElem_cons_succ, List.getElem_cons_zero])
            refine wpAnyG_any (i := 9) (v := ?_) rfl hG9 (by kernel_rfl) (by kernel_rfl) (by kernel_rfl) rfl (fun _ _ _ h => h) (Or.inl ⟨by rfl, ?_⟩) ?_; rotate_left; (intro wS hSw; (try dsimp only at hSw); first | (go_simp; done) | (go_simp; with_reducible rfl) | (simp [go_sem, ↓IntWalk.iteOmega, *]; done) | (simp [go_sem, ↓IntWalk.iteOmega, *]; with_reducible rfl)); (intro hG10); clear hG9; (try simp only [Act.put, List.setIfInBounds_toArray, List.set_cons_zero, List.set_cons_succ, List.getElem_toArray, List.getElem_cons_succ, List.getElem_cons_zero])
            refine wpAnyG_any (i := 10) (v := .bool true) rfl hG10 (by kernel_rfl) (by kernel_rfl) (by kernel_rfl) rfl (fun _ _ _ h => h) (Or.inl ⟨by rfl, ?_⟩) ?_; (focus (intro wS hSw; (try dsimp only at hSw); (try go_simp); (try simp [go_sem, ↓IntWalk.iteOmega, *]))); (intro hG11); clear hG10; (try simp only [Act.put, List.setIfInBounds_toArray, List.set_cons_zero, List.set_cons_succ, List.getElem_toArray, List.getElem_cons_succ, List.getElem_cons_zero])
            refine wpAnyG_any (i := 11) (v := undef) rfl hG11 (by kernel_rfl) (by kernel_rfl) (by kernel_rfl) rfl (fun _ _ _ h => h) (Or.inr ⟨by rfl, rfl⟩) ?_; (intro hG12); clear hG11; (try simp only [Act.put, List.setIfInBounds_toArray, List.set_cons_zero, List.set_cons_succ, List.getElem_toArray, List.getElem_cons_succ, List.getElem_cons_zero])
            refine wpAnyG_any (i := 12) (v := undef) rfl hG12 (by kernel_rfl) (by kernel_rfl) (by kernel_rfl) rfl (fun _ _ _ h => h) (Or.inr ⟨by rfl, rfl⟩) ?_; (intro hG13); clear hG12; (try simp only [Act.put, List.setIfInBounds_toArray, List.set_cons_zero, List.set_cons_succ, List.getElem_toArray, List.getElem_cons_succ, List.getElem_cons_zero])
            refine wpAnyG_any (i := 13) (v := undef) rfl hG13 (by kernel_rfl) (by kernel_rfl) (by kernel_rfl) rfl (fun _ _ _ h => h) (Or.inr ⟨by rfl, rfl⟩) ?_; (intro hG14); clear hG13; (try simp only [Act.put, List.setIfInBounds_toArray, List.set_cons_zero, List.set_cons_succ, List.getElem_toArray, List.getElem_cons_succ, List.getElem_cons_zero])
            refine wpAnyG_any (i := 14) (v := undef) rfl hG14 (by kernel_rfl) (by kernel_rfl) (by kernel_rfl) rfl (fun _ _ _ h => h) (Or.inr ⟨by rfl, rfl⟩) ?_; (intro hG15); clear hG14; (try simp only [Act.put, List.setIfInBounds_toArray, List.set_cons_zero, List.set_cons_succ, List.getElem_toArray, List.getElem_cons_succ, List.getElem_cons_zero])
            refine wpAnyG_any (i := 15) (v := undef) rfl hG15 (by kernel_rfl) (by kernel_rfl) (by kernel_rfl) rfl (fun _ _ _ h => h) (Or.inr ⟨by rfl, rfl⟩) ?_; (intro hG16); clear hG15; (try simp only [Act.put, List.setIfInBounds_toArray, List.set_cons_zero, List.set_cons_succ, List.getElem_toArray, List.getElem_cons_succ, List.getElem_cons_zero])
            refine wpAnyG_any (i := 16) (v := undef) rfl hG16 (by kernel_rfl) (by kernel_rfl) (by kernel_rfl) rfl (fun _ _ _ h => h) (Or.inr ⟨by rfl, rfl⟩) ?_; (intro hG17); clear hG16; (try simp only [Act.put, List.setIfInBounds_toArray, List.set_cons_zero, List.set_cons_succ, List.getElem_toArray, List.getElem_cons_succ, List.getElem_cons_zero])
            refine wpAnyG_any (i := 17) (v := undef) rfl hG17 (by kernel_rfl) (by kernel_rfl) (by kernel_rfl) rfl (fun _ _ _ h => h) (Or.inr ⟨by rfl, rfl⟩) ?_; (intro hG18); clear hG17; (try simp only [Act.put, List.setIfInBounds_toArray, List.set_cons_zero, List.set_cons_succ, List.getElem_toArray, List.getElem_cons_succ, List.getElem_cons_zero])
            refine wpAnyG_ready (rs := [18]) (by kernel_rfl) (by simp) (AllG.cons rfl hG18 (fun K hK => ?_) AllG.nil)
            (go_simp)
            refine hK.out _ _ (Or.inl rfl) (fun hG19 => ?_); clear hK hG18; (try simp only [Act.put, List.setIfInBounds_toArray, List.set_cons_zero, List.set_cons_succ, List.getElem_toArray, List.getElem_cons_succ, List.getElem_cons_zero])
            refine wpAnyG_done (by kernel_rfl) ?_ _; clear hG19
            go_wp2
            go_ret
            exact ⟨by rw [← Hf.out]; rfl, by repeat (first | exact Below.refl _ _ | refine below_dN ?_ _ | refine Below.drew ?_ | refine Below.alloc ?_ (by first | omega | (simp; done) | (simp; omega)) _ | refine Below.setCell ?_ (by first | omega | (simp; done) | (simp; omega)) _ | refine below_step (by assumption) (by first | omega | (simp; done) | (simp; omega)) ?_)⟩
          case pos =>
            subst hcode
            have HN4 := Lib.hid (show feN R b x k = (!prB (fv b k) (fx b k) || decide (0 < cmpF p q (fv b k) (fx b k))) by rw [HN3.out]; rfl)
            simp only [errV_0] at K3
            have K3' := Lib.hid K3
            have KP := Lib.hid (fun wx => proper_any (fv b k) (fx b k) wx)
            clear K3
            obtain ⟨cv, hcv⟩ : ∃ cv, cv = cmpF p q (fv b k) (fx b k) := ⟨_, rfl⟩
            have KC := Lib.hid (fun wx => (by have := cmp_any p q (fv b k) (fx b k) wx; rw [← hcv] at this; exact this : Calls Try.prog 18 #[.agg #[.int .i64 p, .int .i64 q], .agg #[.int .i64 (fv b k), .int .i64 (fx b k)]] wx fun e w' => e = .returned (.int .i64 cv) ∧ Below wx.heap.size wx w'))
            rw [← hcv] at HN4
            clear hcv
            cases e4 : prB (fv b k) (fx b k)
            case false =>
              have Hf := Lib.hid (show false = r by rw [HG3.out, anyB_true.2 ⟨k, HL.out, by rw [HN4.out, e4]; rfl⟩]; rfl)
              have K4 := Lib.hid (fun wx => e4 ▸ KP.out wx)
              clear e4
              go_wp2_with fail
              refine K3'.out.mono ?_
              rintro e w13 ⟨rfl, hb13⟩
              have hb23 := hbel.trans (hb13.mono hbz)
              have z23 := hb23.size
              have d3 := (hb23.cell (p := ⟨b2, o2 + k * 2, none⟩) hb2).trans HC.out.1
              have d4 := (hb23.cell (p := ⟨b2, o2 + k * 2 + 1, none⟩) hb2).trans HC.out.2
              have g2 : b2 < w13.heap.size := by omega
              clear hb13
              go_wp2_with fail
              refine wp_region_G 7 (fun w' => ∀ b o, w'.cell? ⟨b, o, none⟩ = if b < w13.heap.size + 1 then (w13.alloc (.cells #[.int .i64 p, .int .i64 q] 29)).cell? ⟨b, o, none⟩ else hidC w' b o) (by kernel_rfl) (cif (B := w13.heap.size + 1) (Below.refl _ _).drew) ?_
              intro hG0
              refine wpAnyG_any (i := 0) (v := ?_) rfl hG0 (by kernel_rfl) (by kernel_rfl) (by kernel_rfl) rfl (fun _ _ _ h => h) (Or.inl ⟨by rfl, ?_⟩) ?_; rotate_left; (intro wS hSw; (try dsimp only at hSw); first | (go_simp; done) | (go_simp; with_reducible rfl) | (simp [go_sem, ↓IntWalk.iteOmega, *]; done) | (simp [go_sem, ↓IntWalk.iteOmega, *]; with_reducible rfl)); (intro hG1); clear hG0; (try simp only [Act.put, List.setIfInBounds_toArray, List.set_cons_zero, List.set_cons_succ, List.getElem_toArray, List.getElem_cons_succ, List.getElem_cons_zero])
              refine wpAnyG_any (i := 1) (v := ?_) rfl hG1 (by kernel_rfl) (by kernel_rfl) (by kernel_rfl) rfl (fun _ _ _ h => h) (Or.inl ⟨by rfl, ?_⟩) ?_; rotate_left; (intro wS hSw; (try dsimp only at hSw); first | (go_simp; done) | (go_simp; with_reducible rfl) | (simp [go_sem, ↓IntWalk.iteOmega, *]; done) | (simp [go_sem, ↓IntWalk.iteOmega, *]; with_reducible rfl)); (intro hG2); clear hG1; (try simp only [Act.put, List.setIfInBounds_toArray, List.set_cons_zero, List.set_cons_succ, List.getElem_toArray, List.getElem_cons_succ, List.getElem_cons_zero])
              refine wpAnyG_any (i := 2) (v := .bool false) rfl hG2 (by kernel_rfl) (by kernel_rfl) (by kernel_rfl) rfl (fun _ _ _ h => h) (Or.inl ⟨by rfl, ?_⟩) ?_; (focus (intro wS hSw; (try dsimp only at hSw); (try go_simp); (try simp [go_sem, ↓IntWalk.iteOmega, *]))); (intro hG3); clear hG2; (try simp only [Act.put, List.setIfInBounds_toArray, List.set_cons_zero, List.set_cons_succ, List.getElem_toArray, List.getElem_cons_succ, List.getElem_cons_zero])
              refine wpAnyG_any (i := 3) (v := ?_) rfl hG3 (by kernel_rfl) (by kernel_rfl) (by kernel_rfl) rfl (fun _ _ _ h => h) (Or.inl ⟨by rfl, ?_⟩) ?_; rotate_left; (intro wS hSw; (try dsimp only at hSw); first | (go_simp; done) | (go_simp; with_reducible rfl) | (simp [go_sem, ↓IntWalk.iteOmega, *]; done) | (simp [go_sem, ↓IntWalk.iteOmega, *]; with_reducible rfl)); (intro hG4); clear hG3; (try simp only [Act.put, List.setIfInBounds_toArray, List.set_cons_zero, List.set_cons_succ, List.getElem_toArray, List.getElem_cons_succ, List.getElem_cons_zero])
              refine wpAnyG_any (i := 4) (v := ?_) rfl hG4 (by kernel_rfl) (by kernel_rfl) (by kernel_rfl) rfl (fun _ _ _ h => h) (Or.inl ⟨by rfl, ?_⟩) ?_; rotate_left; (intro wS hSw; (try dsimp only at hSw); first | (go_simp; done) | (go_simp; with_reducible rfl) | (simp [go_sem, ↓IntWalk.iteOmega, *]; done) | (simp [go_sem, ↓IntWalk.iteOmega, *]; with_reducible rfl)); (intro hG5); clear hG4; (try simp only [Act.put, List.setIfInBounds_toArray, List.set_cons_zero, List.set_cons_succ, List.getElem_toArray, List.getElem_cons_succ, List.getElem_cons_zero])
              refine wpAnyG_any (i := 5) (v := ?_) rfl hG5 (by kernel_rfl) (by kernel_rfl) (by kernel_rfl) rfl (fun _ _ _ h => h) (Or.inl ⟨by rfl, ?_⟩) ?_; rotate_left; (intro wS hSw; (try dsimp only at hSw); first | (go_simp; done) | (go_simp; with_reducible rfl) | (simp [go_sem, ↓IntWalk.iteOmega, *]; done) | (simp [go_sem, ↓IntWalk.iteOmega, *]; with_reducible rfl)); (intro hG6); clear hG5; (try simp only [Act.put, List.setIfInBounds_toArray, List.set_cons_zero, List.set_cons_succ, List.getElem_toArray, List.getElem_cons_succ, List.getElem_cons_zero])
              refine wpAnyG_take (i := 6) (v := ?_) rfl hG6 (by kernel_rfl) (by kernel_rfl) (by kernel_rfl) rfl (by kernel_rfl) (fun _ _ _ h => h) (Or.inl ⟨by rfl, ?_⟩) ?_; rotate_left; (intro wS hSw; (try dsimp only at hSw); first | (go_simp; done) | (go_simp; with_reducible rfl) | (simp [go_sem, ↓IntWalk.iteOmega, *]; done) | (simp [go_sem, ↓IntWalk.iteOmega, *]; with_reducible rfl)); (intro hG7); clear hG6; (try simp only [Act.put, List.setIfInBounds_toArray, List.set_cons_zero, List.set_cons_succ, List.getElem_toArray, List.getElem_cons_succ, List.getElem_cons_zero])
              refine wpAnyG_ready (rs := [7]) (by kernel_rfl) (by simp) (AllG.cons rfl hG7 (fun K hK => ?_) AllG.nil)
              refine (if_pos (by rfl)).mpr ?_
              (go_simp; go_at_call 50; refine (K4.out _).mono ?_; rintro e w14 ⟨rfl, hb14⟩)
              refine hK.out _ _ (Or.inl rfl) (fun hG8 => ?_); clear hK hG7; (try simp only [Act.put, List.setIfInBounds_toArray, List.set_cons_zero, List.set_cons_succ, List.getElem_toArray, List.getElem_cons_succ, List.getElem_cons_zero])
              refine wpAnyG_any (i := 8) (v := ?_) rfl hG8 (by kernel_rfl) (by kernel_rfl) (by kernel_rfl) rfl (fun _ _ _ h => h) (Or.inl ⟨by rfl, ?_⟩) ?_; rotate_left; (intro wS hSw; (try dsimp only at hSw); first | (go_simp; done) | (go_simp; with_reducible rfl) | (simp [go_sem, ↓IntWalk.iteOmega, *]; done) | (simp [go_sem, ↓IntWalk.iteOmega, *]; with_reducible rfl)); (intro hG9); clear hG8; (try simp only [Act.put, List.setIfInBounds_toArray, List.set_cons_zero, List.set_cons_succ, List.getElem_toArray, List.getElem_cons_succ, List.getElem_cons_zero])
              refine wpAnyG_any (i := 9) (v := ?_) rfl hG9 (by kernel_rfl) (by kernel_rfl) (by kernel_rfl) rfl (fun _ _ _ h => h) (Or.inl ⟨by rfl, ?_⟩) ?_; rotate_left; (intro wS hSw; (try dsimp only at hSw); first | (go_simp; done) | (go_simp; with_reducible rfl) | (simp [go_sem, ↓IntWalk.iteOmega, *]; done) | (simp [go_sem, ↓IntWalk.iteOmega, *]; with_reducible rfl)); (intro hG10); clear hG9; (try simp only [Act.put, List.setIfInBounds_toArray, List.set_cons_zero, List.set_cons_succ, List.getElem_toArray, List.getElem_cons_succ, List.getElem_cons_zero])
              refine wpAnyG_any (i := 10) (v := .bool true) rfl hG10 (by kernel_rfl) (by kernel_rfl) (by kernel_rfl) rfl (fun _ _ _ h => h) (Or.inl ⟨by rfl, ?_⟩) ?_; (focus (intro wS hSw; (try dsimp only at hSw); (try go_simp); (try simp [go_sem, ↓IntWalk.iteOmega, *]))); (intro hG11); clear hG10; (try simp only [Act.put, List.setIfInBounds_toArray, List.set_cons_zero, List.set_cons_succ, List.getElem_toArray, List.getElem_cons_succ, List.getElem_cons_zero])
              refine wpAnyG_any (i := 11) (v := undef) rfl hG11 (by kernel_rfl) (by kernel_rfl) (by kernel_rfl) rfl (fun _ _ _ h => h) (Or.inr ⟨by rfl, rfl⟩) ?_; (intro hG12); clear hG11; (try simp only [Act.put, List.setIfInBounds_toArray, List.set_cons_zero, List.set_cons_succ, List.getElem_toArray, List.getElem_cons_succ, List.getElem_cons_zero])
              refine wpAnyG_any (i := 12) (v := undef) rfl hG12 (by kernel_rfl) (by kernel_rfl) (by kernel_rfl) rfl (fun _ _ _ h => h) (Or.inr ⟨by rfl, rfl⟩) ?_; (intro hG13); clear hG12; (try simp only [Act.put, List.setIfInBounds_toArray, List.set_cons_zero, List.set_cons_succ, List.getElem_toArray, List.getElem_cons_succ, List.getElem_cons_zero])
              refine wpAnyG_any (i := 13) (v := undef) rfl hG13 (by kernel_rfl) (by kernel_rfl) (by kernel_rfl) rfl (fun _ _ _ h => h) (Or.inr ⟨by rfl, rfl⟩) ?_; (intro hG14); clear hG13; (try simp only [Act.put, List.setIfInBounds_toArray, List.set_cons_zero, List.set_cons_succ, List.getElem_toArray, List.getElem_cons_succ, List.getElem_cons_zero])
              refine wpAnyG_any (i := 14) (v := undef) rfl hG14 (by kernel_rfl) (by kernel_rfl) (by kernel_rfl) rfl (fun _ _ _ h => h) (Or.inr ⟨by rfl, rfl⟩) ?_; (intro hG15); clear hG14; (try simp only [Act.put, List.setIfInBounds_toArray, List.set_cons_zero, List.set_cons_succ, List.getElem_toArray, List.getElem_cons_succ, List.getElem_cons_zero])
              refine wpAnyG_any (i := 15) (v := undef) rfl hG15 (by kernel_rfl) (by kernel_rfl) (by kernel_rfl) rfl (fun _ _ _ h => h) (Or.inr ⟨by rfl, rfl⟩) ?_; (intro hG16); clear hG15; (try simp only [Act.put, List.setIfInBounds_toArray, List.set_cons_zero, List.set_cons_succ, List.getElem_toArray, List.getElem_cons_succ, List.getElem_cons_zero])
              refine wpAnyG_any (i := 16) (v := undef) rfl hG16 (by kernel_rfl) (by kernel_rfl) (by kernel_rfl) rfl (fun _ _ _ h => h) (Or.inr ⟨by rfl, rfl⟩) ?_; (intro hG17); clear hG16; (try simp only [Act.put, List.setIfInBounds_toArray, List.set_cons_zero, List.set_cons_succ, List.getElem_toArray, List.getElem_cons_succ, List.getElem_cons_zero])
              refine wpAnyG_any (i := 17) (v := undef) rfl hG17 (by kernel_rfl) (by kernel_rfl) (by kernel_rfl) rfl (fun _ _ _ h => h) (Or.inr ⟨by rfl, rfl⟩) ?_; (intro hG18); clear hG17; (try simp only [Act.put, List.setIfInBounds_toArray, List.set_cons_zero, List.set_cons_succ, List.getElem_toArray, List.getElem_cons_succ, List.getElem_cons_zero])
              refine wpAnyG_any (i := 18) (v := ?_) rfl hG18 (by kernel_rfl) (by kernel_rfl) (by kernel_rfl) rfl (fun _ _ _ h => h) (Or.inl ⟨by rfl, ?_⟩) ?_; rotate_left; (intro wS hSw; (try dsimp only at hSw); first | (go_simp; done) | (go_simp; with_reducible rfl) | (simp [go_sem, ↓IntWalk.iteOmega, *]; done) | (simp [go_sem, ↓IntWalk.iteOmega, *]; with_reducible rfl)); (intro hG19); clear hG18; (try simp only [Act.put, List.setIfInBounds_toArray, List.set_cons_zero, List.set_cons_succ, List.getElem_toArray, List.getElem_cons_succ, List.getElem_cons_zero])
              refine wpAnyG_done (by kernel_rfl) ?_ _; clear hG19
              have hb24 := hb23.trans ((((Below.refl w13.heap.size w13).alloc (Nat.le_refl _) (.cells #[.int .i64 p, .int .i64 q] 29)).drew.trans (hb14.mono (by simp))).mono z23)
              clear hb14
              go_wp2
              go_ret
              exact ⟨by rw [← Hf.out]; rfl, hb24⟩
            case true =>
              have HN5 := Lib.hid (show feN R b x k = decide (0 < cv) by rw [HN4.out, e4]; rfl)
              have K4 := Lib.hid (fun wx => e4 ▸ KP.out wx)
              clear e4
              cases e5 : decide (0 < cv)
              all_goals
                have HN6 := Lib.hid (HN5.out.trans e5)
                go_wp2_with fail
                refine K3'.out.mono ?_
                rintro e w13 ⟨rfl, hb13⟩
                have hb23 := hbel.trans (hb13.mono hbz)
                have z23 := hb23.size
                have d3 := (hb23.cell (p := ⟨b2, o2 + k * 2, none⟩) hb2).trans HC.out.1
                have d4 := (hb23.cell (p := ⟨b2, o2 + k * 2 + 1, none⟩) hb2).trans HC.out.2
                have g2 : b2 < w13.heap.size := by omega
                clear hb13
                go_wp2_with fail
                refine wp_region_G 16 (fun w' => ∀ b o, w'.cell? ⟨b, o, none⟩ = if b < w13.heap.size + 1 then (w13.alloc (.cells #[.int .i64 p, .int .i64 q] 29)).cell? ⟨b, o, none⟩ else hidC w' b o) (by kernel_rfl) (cif (B := w13.heap.size + 1) (Below.refl _ _).drew) ?_
                intro hG0
                refine wpAnyG_any (i := 0) (v := ?_) rfl hG0 (by kernel_rfl) (by kernel_rfl) (by kernel_rfl) rfl (fun _ _ _ h => h) (Or.inl ⟨by rfl, ?_⟩) ?_; rotate_left; (intro wS hSw; (try dsimp only at hSw); first | (go_simp; done) | (go_simp; with_reducible rfl) | (simp [go_sem, ↓IntWalk.iteOmega, *]; done) | (simp [go_sem, ↓IntWalk.iteOmega, *]; with_reducible rfl)); (intro hG1); clear hG0; (try simp only [Act.put, List.setIfInBounds_toArray, List.set_cons_zero, List.set_cons_succ, List.getElem_toArray, List.getElem_cons_succ, List.getElem_cons_zero])
                refine wpAnyG_any (i := 1) (v := ?_) rfl hG1 (by kernel_rfl) (by kernel_rfl) (by kernel_rfl) rfl (fun _ _ _ h => h) (Or.inl ⟨by rfl, ?_⟩) ?_; rotate_left; (intro wS hSw; (try dsimp only at hSw); first | (go_simp; done) | (go_simp; with_reducible rfl) | (simp [go_sem, ↓IntWalk.iteOmega, *]; done) | (simp [go_sem, ↓IntWalk.iteOmega, *]; with_reducible rfl)); (intro hG2); clear hG1; (try simp only [Act.put, List.setIfInBounds_toArray, List.set_cons_zero, List.set_cons_succ, List.getElem_toArray, List.getElem_cons_succ, List.getElem_cons_zero])
                refine wpAnyG_any (i := 2) (v := .bool false) rfl hG2 (by kernel_rfl) (by kernel_rfl) (by kernel_rfl) rfl (fun _ _ _ h => h) (Or.inl ⟨by rfl, ?_⟩) ?_; (focus (intro wS hSw; (try dsimp only at hSw); (try go_simp); (try simp [go_sem, ↓IntWalk.iteOmega, *]))); (intro hG3); clear hG2; (try simp only [Act.put, List.setIfInBounds_toArray, List.set_cons_zero, List.set_cons_succ, List.getElem_toArray, List.getElem_cons_succ, List.getElem_cons_zero])
                refine wpAnyG_any (i := 3) (v := ?_) rfl hG3 (by kernel_rfl) (by kernel_rfl) (by kernel_rfl) rfl (fun _ _ _ h => h) (Or.inl ⟨by rfl, ?_⟩) ?_; rotate_left; (intro wS hSw; (try dsimp only at hSw); first | (go_simp; done) | (go_simp; with_reducible rfl) | (simp [go_sem, ↓IntWalk.iteOmega, *]; done) | (simp [go_sem, ↓IntWalk.iteOmega, *]; with_reducible rfl)); (intro hG4); clear hG3; (try simp only [Act.put, List.setIfInBounds_toArray, List.set_cons_zero, List.set_cons_succ, List.getElem_toArray, List.getElem_cons_succ, List.getElem_cons_zero])
                refine wpAnyG_any (i := 4) (v := ?_) rfl hG4 (by kernel_rfl) (by kernel_rfl) (by kernel_rfl) rfl (fun _ _ _ h => h) (Or.inl ⟨by rfl, ?_⟩) ?_; rotate_left; (intro wS hSw; (try dsimp only at hSw); first | (go_simp; done) | (go_simp; with_reducible rfl) | (simp [go_sem, ↓IntWalk.iteOmega, *]; done) | (simp [go_sem, ↓IntWalk.iteOmega, *]; with_reducible rfl)); (intro hG5); clear hG4; (try simp only [Act.put, List.setIfInBounds_toArray, List.set_cons_zero, List.set_cons_succ, List.getElem_toArray, List.getElem_cons_succ, List.getElem_cons_zero])
                refine wpAnyG_any (i := 5) (v := ?_) rfl hG5 (by kernel_rfl) (by kernel_rfl) (by kernel_rfl) rfl (fun _ _ _ h => h) (Or.inl ⟨by rfl, ?_⟩) ?_; rotate_left; (intro wS hSw; (try dsimp only at hSw); first | (go_simp; done) | (go_simp; with_reducible rfl) | (simp [go_sem, ↓IntWalk.iteOmega, *]; done) | (simp [go_sem, ↓IntWalk.iteOmega, *]; with_reducible rfl)); (intro hG6); clear hG5; (try simp only [Act.put, List.setIfInBounds_toArray, List.set_cons_zero, List.set_cons_succ, List.getElem_toArray, List.getElem_cons_succ, List.getElem_cons_zero])
                refine wpAnyG_take (i := 6) (v := ?_) rfl hG6 (by kernel_rfl) (by kernel_rfl) (by kernel_rfl) rfl (by kernel_rfl) (fun _ _ _ h => h) (Or.inl ⟨by rfl, ?_⟩) ?_; rotate_left; (intro wS hSw; (try dsimp only at hSw); first | (go_simp; done) | (go_simp; with_reducible rfl) | (simp [go_sem, ↓IntWalk.iteOmega, *]; done) | (simp [go_sem, ↓IntWalk.iteOmega, *]; with_reducible rfl)); (intro hG7); clear hG6; (try simp only [Act.put, List.setIfInBounds_toArray, List.set_cons_zero, List.set_cons_succ, List.getElem_toArray, List.getElem_cons_succ, List.getElem_cons_zero])
                refine wpAnyG_ready (rs := [7]) (by kernel_rfl) (by simp) (AllG.cons rfl hG7 (fun K hK => ?_) AllG.nil)
                refine (if_pos (by rfl)).mpr ?_
                (go_simp; go_at_call 50; refine (K4.out _).mono ?_; rintro e w14 ⟨rfl, hb14⟩)
                refine hK.out _ _ (Or.inr (cif (by repeat (first | exact Below.refl _ _ | refine below_dN ?_ _ | refine Below.drew ?_ | refine Below.alloc ?_ (by first | omega | (simp; done) | (simp; omega)) _ | refine Below.setCell ?_ (by first | omega | (simp; done) | (simp; omega)) _ | refine below_step (by assumption) (by first | omega | (simp; done) | (simp; omega)) ?_)))) (fun hG8 => ?_); clear hK hG7; (try simp only [Act.put, List.setIfInBounds_toArray, List.set_cons_zero, List.set_cons_succ, List.getElem_toArray, List.getElem_cons_succ, List.getElem_cons_zero])
                refine wpAnyG_any (i := 8) (v := ?_) rfl hG8 (by kernel_rfl) (by kernel_rfl) (by kernel_rfl) rfl (fun _ _ _ h => h) (Or.inl ⟨by rfl, ?_⟩) ?_; rotate_left; (intro wS hSw; (try dsimp only at hSw); first | (go_simp; done) | (go_simp; with_reducible rfl) | (simp [go_sem, ↓IntWalk.iteOmega, *]; done) | (simp [go_sem, ↓IntWalk.iteOmega, *]; with_reducible rfl)); (intro hG9); clear hG8; (try simp only [Act.put, List.setIfInBounds_toArray, List.set_cons_zero, List.set_cons_succ, List.getElem_toArray, List.getElem_cons_succ, List.getElem_cons_zero])
                refine wpAnyG_any (i := 9) (v := ?_) rfl hG9 (by kernel_rfl) (by kernel_rfl) (by kernel_rfl) rfl (fun _ _ _ h => h) (Or.inl ⟨by rfl, ?_⟩) ?_; rotate_left; (intro wS hSw; (try dsimp only at hSw); first | (go_simp; done) | (go_simp; with_reducible rfl) | (simp [go_sem, ↓IntWalk.iteOmega, *]; done) | (simp [go_sem, ↓IntWalk.iteOmega, *]; with_reducible rfl)); (intro hG10); clear hG9; (try simp only [Act.put, List.setIfInBounds_toArray, List.set_cons_zero, List.set_cons_succ, List.getElem_toArray, List.getElem_cons_succ, List.getElem_cons_zero])
                refine wpAnyG_any (i := 10) (v := .bool false) rfl hG10 (by kernel_rfl) (by kernel_rfl) (by kernel_rfl) rfl (fun _ _ _ h => h) (Or.inl ⟨by rfl, ?_⟩) ?_; (focus (intro wS hSw; (try dsimp only at hSw); (try go_simp); (try simp [go_sem, ↓IntWalk.iteOmega, *]))); (intro hG11); clear hG10; (try simp only [Act.put, List.setIfInBounds_toArray, List.set_cons_zero, List.set_cons_succ, List.getElem_toArray, List.getElem_cons_succ, List.getElem_cons_zero])
                refine wpAnyG_take (i := 11) (v := ?_) rfl hG11 (by kernel_rfl) (by kernel_rfl) (by kernel_rfl) rfl (by kernel_rfl) (fun _ _ _ h => h) (Or.inl ⟨by rfl, ?_⟩) ?_; rotate_left; (intro wS hSw; (try dsimp only at hSw); first | (go_simp; done) | (go_simp; with_reducible rfl) | (simp [go_sem, ↓IntWalk.iteOmega, *]; done) | (simp [go_sem, ↓IntWalk.iteOmega, *]; with_reducible rfl)); (intro hG12); clear hG11; (try simp only [Act.put, List.setIfInBounds_toArray, List.set_cons_zero, List.set_cons_succ, List.getElem_toArray, List.getElem_cons_succ, List.getElem_cons_zero])
                refine wpAnyG_any (i := 12) (v := ?_) rfl hG12 (by kernel_rfl) (by kernel_rfl) (by kernel_rfl) rfl (fun _ _ _ h => h) (Or.inl ⟨by rfl, ?_⟩) ?_; rotate_left; (intro wS hSw; (try dsimp only at hSw); first | (go_simp; done) | (go_simp; with_reducible rfl) | (simp [go_sem, ↓IntWalk.iteOmega, *]; done) | (simp [go_sem, ↓IntWalk.iteOmega, *]; with_reducible rfl)); (intro hG13); clear hG12; (try simp only [Act.put, List.setIfInBounds_toArray, List.set_cons_zero, List.set_cons_succ, List.getElem_toArray, List.getElem_cons_succ, List.getElem_cons_zero])
                refine wpAnyG_any (i := 13) (v := ?_) rfl hG13 (by kernel_rfl) (by kernel_rfl) (by kernel_rfl) rfl (fun _ _ _ h => h) (Or.inl ⟨by rfl, ?_⟩) ?_; rotate_left; (intro wS hSw; (try dsimp only at hSw); first | (go_simp; done) | (go_simp; with_reducible rfl) | (simp [go_sem, ↓IntWalk.iteOmega, *]; done) | (simp [go_sem, ↓IntWalk.iteOmega, *]; with_reducible rfl)); (intro hG14); clear hG13; (try simp only [Act.put, List.setIfInBounds_toArray, List.set_cons_zero, List.set_cons_succ, List.getElem_toArray, List.getElem_cons_succ, List.getElem_cons_zero])
                refine wpAnyG_any (i := 14) (v := ?_) rfl hG14 (by kernel_rfl) (by kernel_rfl) (by kernel_rfl) rfl (fun _ _ _ h => h) (Or.inl ⟨by rfl, ?_⟩) ?_; rotate_left; (intro wS hSw; (try dsimp only at hSw); first | (go_simp; done) | (go_simp; with_reducible rfl) | (simp [go_sem, ↓IntWalk.iteOmega, *]; done) | (simp [go_sem, ↓IntWalk.iteOmega, *]; with_reducible rfl)); (intro hG15); clear hG14; (try simp only [Act.put, List.setIfInBounds_toArray, List.set_cons_zero, List.set_cons_succ, List.getElem_toArray, List.getElem_cons_succ, List.getElem_cons_zero])
                refine wpAnyG_take (i := 15) (v := ?_) rfl hG15 (by kernel_rfl) (by kernel_rfl) (by kernel_rfl) rfl (by kernel_rfl) (fun _ _ _ h => h) (Or.inl ⟨by rfl, ?_⟩) ?_; rotate_left; (intro wS hSw; (try dsimp only at hSw); first | (go_simp; done) | (go_simp; with_reducible rfl) | (simp [go_sem, ↓IntWalk.iteOmega, *]; done) | (simp [go_sem, ↓IntWalk.iteOmega, *]; with_reducible rfl)); (intro hG16); clear hG15; (try simp only [Act.put, List.setIfInBounds_toArray, List.set_cons_zero, List.set_cons_succ, List.getElem_toArray, List.getElem_cons_succ, List.getElem_cons_zero])
                refine wpAnyG_ready (rs := [16]) (by kernel_rfl) (by simp) (AllG.cons rfl hG16 (fun K hK => ?_) AllG.nil)
                refine (if_pos (by rfl)).mpr ?_
                (go_simp; go_at_call 18; refine (KC.out _).mono ?_; rintro e w15 ⟨rfl, hb15⟩)
                refine hK.out _ _ (Or.inl rfl) (fun hG17 => ?_); clear hK hG16; (try simp only [Act.put, List.setIfInBounds_toArray, List.set_cons_zero, List.set_cons_succ, List.getElem_toArray, List.getElem_cons_succ, List.getElem_cons_zero])
                refine wpAnyG_any (i := 17) (v := ?_) rfl hG17 (by kernel_rfl) (by kernel_rfl) (by kernel_rfl) rfl (fun _ _ _ h => h) (Or.inl ⟨by rfl, ?_⟩) ?_; rotate_left; (intro wS hSw; (try dsimp only at hSw); first | (go_simp; done) | (go_simp; with_reducible rfl) | (simp [go_sem, ↓IntWalk.iteOmega, *]; done) | (simp [go_sem, ↓IntWalk.iteOmega, *]; with_reducible rfl)); (intro hG18); clear hG17; (try simp only [Act.put, List.setIfInBounds_toArray, List.set_cons_zero, List.set_cons_succ, List.getElem_toArray, List.getElem_cons_succ, List.getElem_cons_zero])
                refine wpAnyG_any (i := 18) (v := ?_) rfl hG18 (by kernel_rfl) (by kernel_rfl) (by kernel_rfl) rfl (fun _ _ _ h => h) (Or.inl ⟨by rfl, ?_⟩) ?_; rotate_left; (intro wS hSw; (try dsimp only at hSw); first | (go_simp; done) | (go_simp; with_reducible rfl) | (simp [go_sem, ↓IntWalk.iteOmega, *]; done) | (simp [go_sem, ↓IntWalk.iteOmega, *]; with_reducible rfl)); (intro hG19); clear hG18; (try simp only [Act.put, List.setIfInBounds_toArray, List.set_cons_zero, List.set_cons_succ, List.getElem_toArray, List.getElem_cons_succ, List.getElem_cons_zero])
                refine wpAnyG_done (by kernel_rfl) ?_ _; clear hG19
              all_goals
                have hb24 := hb23.trans ((((Below.refl w13.heap.size w13).alloc (Nat.le_refl _) (.cells #[.int .i64 p, .int .i64 q] 29)).drew.trans (hb14.mono (by simp))).mono z23)
                have z24 := hb24.size
                have hb25 := hb24.trans (hb15.mono z24)
                clear hb14 hb15
              · have Hs := Lib.hid (show anyB (k + 1) (feN R b x) = false by rw [anyB_succ, hB.out, HN6.out]; rfl)
                go_wp2
                go_roundw
                case rel => exact ⟨k + 1, by omega, by go_num, Hs.out, hb25⟩
                case measure => simp [intOf]; omega
              · have Hf := Lib.hid (show false = r by rw [HG3.out, anyB_true.2 ⟨k, HL.out, HN6.out⟩]; rfl)
                go_wp2
                go_ret
                exact ⟨by rw [← Hf.out]; rfl, hb25⟩
      · obtain rfl : R.length = k := by omega
        have Ht := Lib.hid (show true = r by rw [HG3.out, hB.out]; rfl)
        go_wp2
        go_ret
        exact ⟨by rw [← Ht.out]; rfl, hbel⟩

end Go.Proofs.Ytaomaopbdilmnaa
