/- simplex: Dot. -/
import Derived.Test.YtaomaopbdilmnaaSxX
namespace Go.Proofs.Ytaomaopbdilmnaa
set_option linter.unusedSimpArgs false
set_option linter.unusedVariables false
open Go Go.RowKit
set_option linter.unusedVariables false

/-- The first k products added up, or the first error. -/
def dk (a b : List (Int × Int)) : Nat → Int × Int × Int
  | 0 => (0, 1, 0)
  | k + 1 =>
    if (dk a b k).2.2 ≠ 0 then dk a b k
    else if (mulF (fv a k) (fx a k) (fv b k) (fx b k)).2.2 ≠ 0 then (0, 0, (mulF (fv a k) (fx a k) (fv b k) (fx b k)).2.2)
    else if (addF (dk a b k).1 (dk a b k).2.1 (mulF (fv a k) (fx a k) (fv b k) (fx b k)).1 (mulF (fv a k) (fx a k) (fv b k) (fx b k)).2.1).2.2 ≠ 0 then (0, 0, (addF (dk a b k).1 (dk a b k).2.1 (mulF (fv a k) (fx a k) (fv b k) (fx b k)).1 (mulF (fv a k) (fx a k) (fv b k) (fx b k)).2.1).2.2)
    else addF (dk a b k).1 (dk a b k).2.1 (mulF (fv a k) (fx a k) (fv b k) (fx b k)).1 (mulF (fv a k) (fx a k) (fv b k) (fx b k)).2.1
def dotF (a b : List (Int × Int)) : Int × Int × Int := if a.length = b.length then dk a b a.length else (0, 0, 11)
section
variable {a b : List (Int × Int)} {k : Nat} {n d p q r s c : Int}
theorem dk_mul (h : dk a b k = (n, d, 0)) (hm : mulF (fv a k) (fx a k) (fv b k) (fx b k) = (p, q, c)) (hc : c ≠ 0) : dk a b (k + 1) = (0, 0, c) := by
  unfold dk
  rw [h, hm]
  simp [hc]
theorem dk_add (h : dk a b k = (n, d, 0)) (hm : mulF (fv a k) (fx a k) (fv b k) (fx b k) = (p, q, 0)) (ha : addF n d p q = (r, s, c)) (hc : c ≠ 0) : dk a b (k + 1) = (0, 0, c) := by
  unfold dk
  rw [h, hm]
  simp [ha, hc]
theorem dk_ok (h : dk a b k = (n, d, 0)) (hm : mulF (fv a k) (fx a k) (fv b k) (fx b k) = (p, q, 0)) (ha : addF n d p q = (r, s, 0)) : dk a b (k + 1) = (r, s, 0) := by
  unfold dk
  rw [h, hm]
  simp [ha]
theorem dk_stay (h : dk a b k = (n, d, c)) (hc : c ≠ 0) : ∀ j, dk a b (k + j) = (n, d, c)
  | 0 => h
  | j + 1 => by
    have ih := dk_stay h hc j
    rw [← Nat.add_assoc]
    unfold dk
    rw [ih]
    simp [hc]
theorem dot_end (h1 : a.length = b.length) (h : dk a b k = (n, d, c)) (hc : c ≠ 0) (hk : k ≤ a.length) : dotF a b = (n, d, c) := by
  unfold dotF
  rw [if_pos h1]
  have := dk_stay h hc (a.length - k)
  rwa [show k + (a.length - k) = a.length by omega] at this
end

set_option maxRecDepth 100000 in
set_option maxHeartbeats 8000000 in
theorem dot_any (a b : List (Int × Int)) (A B : Option Addr) (c d : Nat) (w : World) (ha : FactsAt w w.heap.size A a) (hb : FactsAt w w.heap.size B b) :
    Calls Try.prog 24 #[.slice A a.length c, .slice B b.length d] w (RetFE (dotF a b) w) := by
  have la := ha.len
  have lb := hb.len
  have KZ := Lib.hid zero_any
  by_cases h1 : a.length = b.length
  case neg =>
    have HD := Lib.hid (show dotF a b = (0, 0, 11) from if_neg h1)
    have e1 : ((a.length : Int) != (b.length : Int)) = true := by simp; omega
    clear h1
    go_enter Try.func24, Try.ntmps24
    go_wp2
    refine bodyPost_ret (v := .tuple #[.agg #[.int .i64 0, .int .i64 0], .iface 35 (.int .i64 11)]) (by simp [results, Try.results24, go_sem, ↓IntWalk.iteOmega, *]) rfl (RetFE.mk (by rw [HD.out]; rfl) ?_)
    repeat (first | exact Below.refl _ _ | refine below_dN ?_ _ | refine Below.drew ?_ | refine Below.alloc ?_ (by first | omega | (simp; done) | (simp; omega)) _ | refine Below.setCell ?_ (by first | omega | (simp; done) | (simp; omega)) _ | refine below_step (by assumption) (by first | omega | (simp; done) | (simp; omega)) ?_)
  case pos =>
    have e1 : ((a.length : Int) != (b.length : Int)) = false := by simp; omega
    have H1 := Lib.hid h1
    have Ha := Lib.hid ha
    have Hb := Lib.hid hb
    clear h1 ha hb
    go_enter Try.func24, Try.ntmps24
    go_wp2_with fail
    clear e1
    refine (KZ.out _).mono ?_
    rintro e w3 ⟨rfl, hb3⟩
    have hV3 : Own2 w3 w.heap.size 0 0 := (Own2.new (T := 29)).up hb3
    have hbw : Below w.heap.size w w3 := ((Below.refl _ _).alloc (Nat.le_refl _) _).trans (hb3.mono (by simp))
    have z3 := hbw.size
    have lV := hV3.lt
    obtain ⟨V, hV⟩ : ∃ V, V = w.heap.size := ⟨_, rfl⟩
    obtain ⟨Sb, hSb⟩ : ∃ Sb, Sb = w3.heap.size := ⟨_, rfl⟩
    have hV4 := hV3.alloc (.cells #[.int .i64 0, .int .i64 1] 29)
    have hS4 : Own2 (w3.alloc (.cells #[.int .i64 0, .int .i64 1] 29)) w3.heap.size 0 1 := Own2.new
    have hne : Sb ≠ V := by omega
    have lVle : w.heap.size ≤ V := by omega
    have lSle : w.heap.size ≤ Sb := by omega
    rw [← hV] at hV4
    rw [← hSb] at hS4
    clear hV3 hb3
    go_wp2
    rw [← hV, ← hSb]
    clear hV hSb lV
    go_loopw [20] (fun i wr => ∃ (k : Nat) (n d : Int), k ≤ a.length ∧ i = .int .i64 k ∧ Own2 wr V 0 0 ∧ Own2 wr Sb n d ∧ Hid (dk a b k = (n, d, 0)) ∧ Below w.heap.size w wr) (fun i _ => a.length - (intOf i).toNat)
    case atStart => exact ⟨0, 0, 1, by omega, rfl, hV4, hS4, rfl, hbw.alloc z3 _⟩
    case round =>
      clear hV4 hS4 hbw z3
      obtain ⟨k, n, d', hk, rfl, hVr, hSr, hD, hbel⟩ := hrel
      have hbz := hbel.size
      by_cases hlt : k < a.length
      · obtain ⟨b1, o1, ea, hb1, hc1⟩ := Ha.out.at_ hlt
        have hlt2 : k < b.length := by have := H1.out; omega
        obtain ⟨b2, o2, eb, hb2, hc2⟩ := Hb.out.at_ hlt2
        subst ea eb
        have d1 := (hbel.cell (p := ⟨b1, o1 + k * 2, none⟩) hb1).trans (hc1 k hlt).1
        have d2 := (hbel.cell (p := ⟨b1, o1 + k * 2 + 1, none⟩) hb1).trans (hc1 k hlt).2
        have d3 := (hbel.cell (p := ⟨b2, o2 + k * 2, none⟩) hb2).trans (hc2 k hlt2).1
        have d4 := (hbel.cell (p := ⟨b2, o2 + k * 2 + 1, none⟩) hb2).trans (hc2 k hlt2).2
        have g1 : b1 < wr.heap.size := by omega
        have g2 : b2 < wr.heap.size := by omega
        have k0 : (0 : Int) ≤ (k : Int) := by omega
        have k1 : (k : Int) < (a.length : Int) := by omega
        have k2 : (k : Int) < (b.length : Int) := by omega
        have lS := hSr.lt
        have lV := hVr.lt
        clear hc1 hc2
        have kk := fun W => mul_any (fv a k) (fx a k) (fv b k) (fx b k) W
        obtain ⟨⟨p, q, code⟩, hx⟩ : ∃ r, mulF (fv a k) (fx a k) (fv b k) (fx b k) = r := ⟨_, rfl⟩
        rw [hx] at kk
        have Hx := Lib.hid hx
        clear hx
        unfold RetFE at kk
        dsimp only at kk
        by_cases hcode : code = 0
        case neg =>
          have HE := Lib.hid (dot_end H1.out (dk_mul hD.out Hx.out hcode) hcode hlt)
          have HV := Lib.hid (errV_ne hcode)
          simp only [HV.out] at kk
          have K5 := Lib.hid kk
          clear kk hcode
          go_wp2_with fail
          refine wp_region_G 8 (fun w' => ∀ b o, w'.cell? ⟨b, o, none⟩ = if b < wr.heap.size then wr.cell? ⟨b, o, none⟩ else hidC w' b o) (by kernel_rfl) (cif (B := wr.heap.size) (W := wr) (Below.refl _ _).drew) ?_
          intro hG0
          refine wpAnyG_any (i := 0) (v := ?_) rfl hG0 (by kernel_rfl) (by kernel_rfl) (by kernel_rfl) rfl (fun _ _ _ h => h) (Or.inl ⟨by rfl, ?_⟩) ?_; rotate_left; (intro wS hSw; (try dsimp only at hSw); first | (go_simp; done) | (go_simp; with_reducible rfl) | (simp [go_sem, ↓IntWalk.iteOmega, *]; done) | (simp [go_sem, ↓IntWalk.iteOmega, *]; with_reducible rfl)); (intro hG1); clear hG0; (try simp only [Act.put, List.setIfInBounds_toArray, List.set_cons_zero, List.set_cons_succ, List.getElem_toArray, List.getElem_cons_succ, List.getElem_cons_zero])
          refine wpAnyG_any (i := 1) (v := ?_) rfl hG1 (by kernel_rfl) (by kernel_rfl) (by kernel_rfl) rfl (fun _ _ _ h => h) (Or.inl ⟨by rfl, ?_⟩) ?_; rotate_left; (intro wS hSw; (try dsimp only at hSw); first | (go_simp; done) | (go_simp; with_reducible rfl) | (simp [go_sem, ↓IntWalk.iteOmega, *]; done) | (simp [go_sem, ↓IntWalk.iteOmega, *]; with_reducible rfl)); (intro hG2); clear hG1; (try simp only [Act.put, List.setIfInBounds_toArray, List.set_cons_zero, List.set_cons_succ, List.getElem_toArray, List.getElem_cons_succ, List.getElem_cons_zero])
          refine wpAnyG_any (i := 2) (v := ?_) rfl hG2 (by kernel_rfl) (by kernel_rfl) (by kernel_rfl) rfl (fun _ _ _ h => h) (Or.inl ⟨by rfl, ?_⟩) ?_; rotate_left; (intro wS hSw; (try dsimp only at hSw); first | (go_simp; done) | (go_simp; with_reducible rfl) | (simp [go_sem, ↓IntWalk.iteOmega, *]; done) | (simp [go_sem, ↓IntWalk.iteOmega, *]; with_reducible rfl)); (intro hG3); clear hG2; (try simp only [Act.put, List.setIfInBounds_toArray, List.set_cons_zero, List.set_cons_succ, List.getElem_toArray, List.getElem_cons_succ, List.getElem_cons_zero])
          refine wpAnyG_take (i := 3) (v := ?_) rfl hG3 (by kernel_rfl) (by kernel_rfl) (by kernel_rfl) rfl (by kernel_rfl) (fun _ _ _ h => h) (Or.inl ⟨by rfl, ?_⟩) ?_; rotate_left; (intro wS hSw; (try dsimp only at hSw); first | (go_simp; done) | (go_simp; with_reducible rfl) | (simp [go_sem, ↓IntWalk.iteOmega, *]; done) | (simp [go_sem, ↓IntWalk.iteOmega, *]; with_reducible rfl)); (intro hG4); clear hG3; (try simp only [Act.put, List.setIfInBounds_toArray, List.set_cons_zero, List.set_cons_succ, List.getElem_toArray, List.getElem_cons_succ, List.getElem_cons_zero])
          refine wpAnyG_any (i := 4) (v := ?_) rfl hG4 (by kernel_rfl) (by kernel_rfl) (by kernel_rfl) rfl (fun _ _ _ h => h) (Or.inl ⟨by rfl, ?_⟩) ?_; rotate_left; (intro wS hSw; (try dsimp only at hSw); first | (go_simp; done) | (go_simp; with_reducible rfl) | (simp [go_sem, ↓IntWalk.iteOmega, *]; done) | (simp [go_sem, ↓IntWalk.iteOmega, *]; with_reducible rfl)); (intro hG5); clear hG4; (try simp only [Act.put, List.setIfInBounds_toArray, List.set_cons_zero, List.set_cons_succ, List.getElem_toArray, List.getElem_cons_succ, List.getElem_cons_zero])
          refine wpAnyG_any (i := 5) (v := ?_) rfl hG5 (by kernel_rfl) (by kernel_rfl) (by kernel_rfl) rfl (fun _ _ _ h => h) (Or.inl ⟨by rfl, ?_⟩) ?_; rotate_left; (intro wS hSw; (try dsimp only at hSw); first | (go_simp; done) | (go_simp; with_reducible rfl) | (simp [go_sem, ↓IntWalk.iteOmega, *]; done) | (simp [go_sem, ↓IntWalk.iteOmega, *]; with_reducible rfl)); (intro hG6); clear hG5; (try simp only [Act.put, List.setIfInBounds_toArray, List.set_cons_zero, List.set_cons_succ, List.getElem_toArray, List.getElem_cons_succ, List.getElem_cons_zero])
          refine wpAnyG_any (i := 6) (v := ?_) rfl hG6 (by kernel_rfl) (by kernel_rfl) (by kernel_rfl) rfl (fun _ _ _ h => h) (Or.inl ⟨by rfl, ?_⟩) ?_; rotate_left; (intro wS hSw; (try dsimp only at hSw); first | (go_simp; done) | (go_simp; with_reducible rfl) | (simp [go_sem, ↓IntWalk.iteOmega, *]; done) | (simp [go_sem, ↓IntWalk.iteOmega, *]; with_reducible rfl)); (intro hG7); clear hG6; (try simp only [Act.put, List.setIfInBounds_toArray, List.set_cons_zero, List.set_cons_succ, List.getElem_toArray, List.getElem_cons_succ, List.getElem_cons_zero])
          refine wpAnyG_take (i := 7) (v := ?_) rfl hG7 (by kernel_rfl) (by kernel_rfl) (by kernel_rfl) rfl (by kernel_rfl) (fun _ _ _ h => h) (Or.inl ⟨by rfl, ?_⟩) ?_; rotate_left; (intro wS hSw; (try dsimp only at hSw); first | (go_simp; done) | (go_simp; with_reducible rfl) | (simp [go_sem, ↓IntWalk.iteOmega, *]; done) | (simp [go_sem, ↓IntWalk.iteOmega, *]; with_reducible rfl)); (intro hG8); clear hG7; (try simp only [Act.put, List.setIfInBounds_toArray, List.set_cons_zero, List.set_cons_succ, List.getElem_toArray, List.getElem_cons_succ, List.getElem_cons_zero])
          refine wpAnyG_ready (rs := [8, 12]) (by kernel_rfl) (by simp) (AllG.cons rfl hG8 (fun K hK => ?_) (AllG.cons rfl hG8 (fun K hK => ?_) AllG.nil))
          (go_simp; go_at_call 19; refine (K5.out _).mono ?_; rintro e w4 ⟨rfl, hb4⟩)
          refine hK.out _ _ (Or.inl rfl) (fun hG9 => ?_); clear hK hG8; (try simp only [Act.put, List.setIfInBounds_toArray, List.set_cons_zero, List.set_cons_succ, List.getElem_toArray, List.getElem_cons_succ, List.getElem_cons_zero])
          refine wpAnyG_any (i := 9) (v := ?_) rfl hG9 (by kernel_rfl) (by kernel_rfl) (by kernel_rfl) rfl (fun _ _ _ h => h) (Or.inl ⟨by rfl, ?_⟩) ?_; rotate_left; (intro wS hSw; (try dsimp only at hSw); first | (go_simp; done) | (go_simp; with_reducible rfl) | (simp [go_sem, ↓IntWalk.iteOmega, *]; done) | (simp [go_sem, ↓IntWalk.iteOmega, *]; with_reducible rfl)); (intro hG10); clear hG9; (try simp only [Act.put, List.setIfInBounds_toArray, List.set_cons_zero, List.set_cons_succ, List.getElem_toArray, List.getElem_cons_succ, List.getElem_cons_zero])
          refine wpAnyG_any (i := 10) (v := ?_) rfl hG10 (by kernel_rfl) (by kernel_rfl) (by kernel_rfl) rfl (fun _ _ _ h => h) (Or.inl ⟨by rfl, ?_⟩) ?_; rotate_left; (intro wS hSw; (try dsimp only at hSw); first | (go_simp; done) | (go_simp; with_reducible rfl) | (simp [go_sem, ↓IntWalk.iteOmega, *]; done) | (simp [go_sem, ↓IntWalk.iteOmega, *]; with_reducible rfl)); (intro hG11); clear hG10; (try simp only [Act.put, List.setIfInBounds_toArray, List.set_cons_zero, List.set_cons_succ, List.getElem_toArray, List.getElem_cons_succ, List.getElem_cons_zero])
          refine wpAnyG_any (i := 11) (v := ?_) rfl hG11 (by kernel_rfl) (by kernel_rfl) (by kernel_rfl) rfl (fun _ _ _ h => h) (Or.inl ⟨by rfl, ?_⟩) ?_; rotate_left; (intro wS hSw; (try dsimp only at hSw); first | (go_simp; done) | (go_simp; with_reducible rfl) | (simp [go_sem, ↓IntWalk.iteOmega, *]; done) | (simp [go_sem, ↓IntWalk.iteOmega, *]; with_reducible rfl)); (intro hG12); clear hG11; (try simp only [Act.put, List.setIfInBounds_toArray, List.set_cons_zero, List.set_cons_succ, List.getElem_toArray, List.getElem_cons_succ, List.getElem_cons_zero])
          refine wpAnyG_ready (rs := [12]) (by kernel_rfl) (by simp) (AllG.cons rfl hG12 (fun K hK => ?_) AllG.nil)
          (go_simp)
          refine hK.out _ _ (Or.inl rfl) (fun hG13 => ?_); clear hK hG12; (try simp only [Act.put, List.setIfInBounds_toArray, List.set_cons_zero, List.set_cons_succ, List.getElem_toArray, List.getElem_cons_succ, List.getElem_cons_zero])
          refine wpAnyG_ready (rs := [13]) (by kernel_rfl) (by simp) (AllG.cons rfl hG13 (fun K hK => ?_) AllG.nil)
          (go_simp)
          refine hK.out _ _ (Or.inl rfl) (fun hG14 => ?_); clear hK hG13; (try simp only [Act.put, List.setIfInBounds_toArray, List.set_cons_zero, List.set_cons_succ, List.getElem_toArray, List.getElem_cons_succ, List.getElem_cons_zero])
          refine wpAnyG_any (i := 14) (v := ?_) rfl hG14 (by kernel_rfl) (by kernel_rfl) (by kernel_rfl) rfl (fun _ _ _ h => h) (Or.inl ⟨by rfl, ?_⟩) ?_; rotate_left; (intro wS hSw; (try dsimp only at hSw); first | (go_simp; done) | (go_simp; with_reducible rfl) | (simp [go_sem, ↓IntWalk.iteOmega, *]; done) | (simp [go_sem, ↓IntWalk.iteOmega, *]; with_reducible rfl)); (intro hG15); clear hG14; (try simp only [Act.put, List.setIfInBounds_toArray, List.set_cons_zero, List.set_cons_succ, List.getElem_toArray, List.getElem_cons_succ, List.getElem_cons_zero])
          refine wpAnyG_done (by kernel_rfl) ?_ _; clear hG15
          rotate_left
          (go_simp)
          refine hK.out _ _ (Or.inr (cif (by repeat (first | exact Below.refl _ _ | refine below_dN ?_ _ | refine Below.drew ?_ | refine Below.alloc ?_ (by first | omega | (simp; done) | (simp; omega)) _ | refine Below.setCell ?_ (by first | omega | (simp; done) | (simp; omega)) _ | refine below_step (by assumption) (by first | omega | (simp; done) | (simp; omega)) ?_)))) (fun hG9 => ?_); clear hK hG8; (try simp only [Act.put, List.setIfInBounds_toArray, List.set_cons_zero, List.set_cons_succ, List.getElem_toArray, List.getElem_cons_succ, List.getElem_cons_zero])
          refine wpAnyG_ready (rs := [8]) (by kernel_rfl) (by simp) (AllG.cons rfl hG9 (fun K hK => ?_) AllG.nil)
          (go_simp; go_at_call 19; refine (K5.out _).mono ?_; rintro e w4 ⟨rfl, hb4⟩; have q0 : w4.cell? ⟨wr.heap.size, 0, none⟩ = some (.int .i64 0) := (hb4.cell (p := ⟨wr.heap.size, 0, none⟩) (by simp)).trans (by simp); have q1 : w4.cell? ⟨wr.heap.size, 1, none⟩ = some (.int .i64 0) := (hb4.cell (p := ⟨wr.heap.size, 1, none⟩) (by simp)).trans (by simp); have q2 : w4.frozen? ⟨wr.heap.size, 0, none⟩ = false := (hb4.frozen (p := ⟨wr.heap.size, 0, none⟩) (by simp)).trans (by simp); have q3 : w4.frozen? ⟨wr.heap.size, 1, none⟩ = false := (hb4.frozen (p := ⟨wr.heap.size, 1, none⟩) (by simp)).trans (by simp); have q4 : wr.heap.size < w4.heap.size := (by have := hb4.size; simp at this; omega))
          refine hK.out _ _ (Or.inl rfl) (fun hG10 => ?_); clear hK hG9; (try simp only [Act.put, List.setIfInBounds_toArray, List.set_cons_zero, List.set_cons_succ, List.getElem_toArray, List.getElem_cons_succ, List.getElem_cons_zero])
          refine wpAnyG_any (i := 9) (v := ?_) rfl hG10 (by kernel_rfl) (by kernel_rfl) (by kernel_rfl) rfl (fun _ _ _ h => h) (Or.inl ⟨by rfl, ?_⟩) ?_; rotate_left; (intro wS hSw; (try dsimp only at hSw); first | (go_simp; done) | (go_simp; with_reducible rfl) | (simp [go_sem, ↓IntWalk.iteOmega, *]; done) | (simp [go_sem, ↓IntWalk.iteOmega, *]; with_reducible rfl)); (intro hG11); clear hG10; (try simp only [Act.put, List.setIfInBounds_toArray, List.set_cons_zero, List.set_cons_succ, List.getElem_toArray, List.getElem_cons_succ, List.getElem_cons_zero])
          refine wpAnyG_any (i := 10) (v := ?_) rfl hG11 (by kernel_rfl) (by kernel_rfl) (by kernel_rfl) rfl (fun _ _ _ h => h) (Or.inl ⟨by rfl, ?_⟩) ?_; rotate_left; (intro wS hSw; (try dsimp only at hSw); first | (go_simp; done) | (go_simp; with_reducible rfl) | (simp [go_sem, ↓IntWalk.iteOmega, *]; done) | (simp [go_sem, ↓IntWalk.iteOmega, *]; with_reducible rfl)); (intro hG12); clear hG11; (try simp only [Act.put, List.setIfInBounds_toArray, List.set_cons_zero, List.set_cons_succ, List.getElem_toArray, List.getElem_cons_succ, List.getElem_cons_zero])
          refine wpAnyG_any (i := 11) (v := ?_) rfl hG12 (by kernel_rfl) (by kernel_rfl) (by kernel_rfl) rfl (fun _ _ _ h => h) (Or.inl ⟨by rfl, ?_⟩) ?_; rotate_left; (intro wS hSw; (try dsimp only at hSw); first | (go_simp; done) | (go_simp; with_reducible rfl) | (simp [go_sem, ↓IntWalk.iteOmega, *]; done) | (simp [go_sem, ↓IntWalk.iteOmega, *]; with_reducible rfl)); (intro hG13); clear hG12; (try simp only [Act.put, List.setIfInBounds_toArray, List.set_cons_zero, List.set_cons_succ, List.getElem_toArray, List.getElem_cons_succ, List.getElem_cons_zero])
          refine wpAnyG_ready (rs := [13]) (by kernel_rfl) (by simp) (AllG.cons rfl hG13 (fun K hK => ?_) AllG.nil)
          (go_simp)
          refine hK.out _ _ (Or.inl rfl) (fun hG14 => ?_); clear hK hG13; (try simp only [Act.put, List.setIfInBounds_toArray, List.set_cons_zero, List.set_cons_succ, List.getElem_toArray, List.getElem_cons_succ, List.getElem_cons_zero])
          refine wpAnyG_any (i := 14) (v := ?_) rfl hG14 (by kernel_rfl) (by kernel_rfl) (by kernel_rfl) rfl (fun _ _ _ h => h) (Or.inl ⟨by rfl, ?_⟩) ?_; rotate_left; (intro wS hSw; (try dsimp only at hSw); first | (go_simp; done) | (go_simp; with_reducible rfl) | (simp [go_sem, ↓IntWalk.iteOmega, *]; done) | (simp [go_sem, ↓IntWalk.iteOmega, *]; with_reducible rfl)); (intro hG15); clear hG14; (try simp only [Act.put, List.setIfInBounds_toArray, List.set_cons_zero, List.set_cons_succ, List.getElem_toArray, List.getElem_cons_succ, List.getElem_cons_zero])
          refine wpAnyG_done (by kernel_rfl) ?_ _; clear hG15
          rotate_left
          · have hb5 : Below wr.heap.size wr (w4.alloc (.cells #[.int .i64 p, .int .i64 q] 29)) := ((Below.refl _ _).drew.trans hb4).alloc (by have := hb4.size; exact this) _
            have s0 : (w4.alloc (.cells #[.int .i64 p, .int .i64 q] 29)).cell? ⟨w4.heap.size, 0, none⟩ = some (.int .i64 p) := by simp
            have s1 : (w4.alloc (.cells #[.int .i64 p, .int .i64 q] 29)).cell? ⟨w4.heap.size, 1, none⟩ = some (.int .i64 q) := by simp
            have sY : w4.heap.size < (w4.alloc (.cells #[.int .i64 p, .int .i64 q] 29)).heap.size := by simp
            have sZ : wr.heap.size ≤ w4.heap.size := hb4.size
            clear hb4
            obtain ⟨w5, hw5⟩ : ∃ w5, w5 = w4.alloc (.cells #[.int .i64 p, .int .i64 q] 29) := ⟨_, rfl⟩
            obtain ⟨Y, hY⟩ : ∃ Y, Y = w4.heap.size := ⟨_, rfl⟩
            rw [← hw5, ← hY] at s0 s1 sY; rw [← hw5] at hb5; rw [← hY] at sZ; rw [← hw5, ← hY]; clear hw5 hY
            have hb6 := hbel.trans (hb5.mono hbz)
            have z6 := hb6.size
            obtain ⟨u0, u1, u2, u3, u4⟩ := id (hVr.up hb5)
            clear hb5 s0 s1 sY sZ
            go_wp2
            refine bodyPost_ret (v := .tuple #[.agg #[.int .i64 0, .int .i64 0], .iface 35 (.int .i64 code)]) (by simp [results, Try.results24, go_sem, ↓IntWalk.iteOmega, *]) rfl (RetFE.mk (by rw [HE.out, ← HV.out]) ?_)
            repeat (first | exact Below.refl _ _ | refine below_dN ?_ _ | refine Below.drew ?_ | refine Below.alloc ?_ (by first | omega | (simp; done) | (simp; omega)) _ | refine Below.setCell ?_ (by first | omega | (simp; done) | (simp; omega)) _ | refine below_step (by assumption) (by first | omega | (simp; done) | (simp; omega)) ?_)
          · have hb5 : Below wr.heap.size wr ((w4.setCell ⟨wr.heap.size, 0, none⟩ (.int .i64 p)).setCell ⟨wr.heap.size, 1, none⟩ (.int .i64 q)) := ((((Below.refl _ _).drew.alloc (Nat.le_refl _) _).trans (hb4.mono (by simp))).setCell (p := ⟨wr.heap.size, 0, none⟩) (Nat.le_refl _) _).setCell (p := ⟨wr.heap.size, 1, none⟩) (Nat.le_refl _) _
            have s0 : ((w4.setCell ⟨wr.heap.size, 0, none⟩ (.int .i64 p)).setCell ⟨wr.heap.size, 1, none⟩ (.int .i64 q)).cell? ⟨wr.heap.size, 0, none⟩ = some (.int .i64 p) := by rw [World.cell?_setCell_other _ _ _ _ (by simp)]; exact World.cell?_setCell_same _ _ _ q0
            have s1 : ((w4.setCell ⟨wr.heap.size, 0, none⟩ (.int .i64 p)).setCell ⟨wr.heap.size, 1, none⟩ (.int .i64 q)).cell? ⟨wr.heap.size, 1, none⟩ = some (.int .i64 q) := World.cell?_setCell_same _ _ _ ((World.cell?_setCell_other _ _ _ _ (by simp)).trans q1)
            have sY : wr.heap.size < ((w4.setCell ⟨wr.heap.size, 0, none⟩ (.int .i64 p)).setCell ⟨wr.heap.size, 1, none⟩ (.int .i64 q)).heap.size := by simpa [World.setCell] using q4
            have sZ : wr.heap.size ≤ wr.heap.size := Nat.le_refl _
            clear hb4 q0 q1 q2 q3 q4
            obtain ⟨w5, hw5⟩ : ∃ w5, w5 = ((w4.setCell ⟨wr.heap.size, 0, none⟩ (.int .i64 p)).setCell ⟨wr.heap.size, 1, none⟩ (.int .i64 q)) := ⟨_, rfl⟩
            rw [← hw5] at hb5 s0 s1 sY; rw [← hw5]; clear hw5
            have hb6 := hbel.trans (hb5.mono hbz)
            have z6 := hb6.size
            obtain ⟨u0, u1, u2, u3, u4⟩ := id (hVr.up hb5)
            clear hb5 s0 s1 sY sZ
            go_wp2
            refine bodyPost_ret (v := .tuple #[.agg #[.int .i64 0, .int .i64 0], .iface 35 (.int .i64 code)]) (by simp [results, Try.results24, go_sem, ↓IntWalk.iteOmega, *]) rfl (RetFE.mk (by rw [HE.out, ← HV.out]) ?_)
            repeat (first | exact Below.refl _ _ | refine below_dN ?_ _ | refine Below.drew ?_ | refine Below.alloc ?_ (by first | omega | (simp; done) | (simp; omega)) _ | refine Below.setCell ?_ (by first | omega | (simp; done) | (simp; omega)) _ | refine below_step (by assumption) (by first | omega | (simp; done) | (simp; omega)) ?_)
        case pos =>
          subst hcode
          simp only [errV_0] at kk
          have K5 := Lib.hid kk
          clear kk
          have ka := fun W => add_any n d' p q W
          obtain ⟨⟨r, s, code2⟩, hy⟩ : ∃ r, addF n d' p q = r := ⟨_, rfl⟩
          rw [hy] at ka
          have Hy := Lib.hid hy
          clear hy
          unfold RetFE at ka
          dsimp only at ka
          by_cases hcode2 : code2 = 0
          case neg =>
            have HE := Lib.hid (dot_end H1.out (dk_add hD.out Hx.out Hy.out hcode2) hcode2 hlt)
            have HV := Lib.hid (errV_ne hcode2)
            simp only [HV.out] at ka
            have KA := Lib.hid ka
            clear ka hcode2
            go_wp2_with fail
            refine wp_region_G 8 (fun w' => ∀ b o, w'.cell? ⟨b, o, none⟩ = if b < wr.heap.size then wr.cell? ⟨b, o, none⟩ else hidC w' b o) (by kernel_rfl) (cif (B := wr.heap.size) (W := wr) (Below.refl _ _).drew) ?_
            intro hG0
            refine wpAnyG_any (i := 0) (v := ?_) rfl hG0 (by kernel_rfl) (by kernel_rfl) (by kernel_rfl) rfl (fun _ _ _ h => h) (Or.inl ⟨by rfl, ?_⟩) ?_; rotate_left; (intro wS hSw; (try dsimp only at hSw); first | (go_simp; done) | (go_simp; with_reducible rfl) | (simp [go_sem, ↓IntWalk.iteOmega, *]; done) | (simp [go_sem, ↓IntWalk.iteOmega, *]; with_reducible rfl)); (intro hG1); clear hG0; (try simp only [Act.put, List.setIfInBounds_toArray, List.set_cons_zero, List.set_cons_succ, List.getElem_toArray, List.getElem_cons_succ, List.getElem_cons_zero])
            refine wpAnyG_any (i := 1) (v := ?_) rfl hG1 (by kernel_rfl) (by kernel_rfl) (by kernel_rfl) rfl (fun _ _ _ h => h) (Or.inl ⟨by rfl, ?_⟩) ?_; rotate_left; (intro wS hSw; (try dsimp only at hSw); first | (go_simp; done) | (go_simp; with_reducible rfl) | (simp [go_sem, ↓IntWalk.iteOmega, *]; done) | (simp [go_sem, ↓IntWalk.iteOmega, *]; with_reducible rfl)); (intro hG2); clear hG1; (try simp only [Act.put, List.setIfInBounds_toArray, List.set_cons_zero, List.set_cons_succ, List.getElem_toArray, List.getElem_cons_succ, List.getElem_cons_zero])
            refine wpAnyG_any (i := 2) (v := ?_) rfl hG2 (by kernel_rfl) (by kernel_rfl) (by kernel_rfl) rfl (fun _ _ _ h => h) (Or.inl ⟨by rfl, ?_⟩) ?_; rotate_left; (intro wS hSw; (try dsimp only at hSw); first | (go_simp; done) | (go_simp; with_reducible rfl) | (simp [go_sem, ↓IntWalk.iteOmega, *]; done) | (simp [go_sem, ↓IntWalk.iteOmega, *]; with_reducible rfl)); (intro hG3); clear hG2; (try simp only [Act.put, List.setIfInBounds_toArray, List.set_cons_zero, List.set_cons_succ, List.getElem_toArray, List.getElem_cons_succ, List.getElem_cons_zero])
            refine wpAnyG_take (i := 3) (v := ?_) rfl hG3 (by kernel_rfl) (by kernel_rfl) (by kernel_rfl) rfl (by kernel_rfl) (fun _ _ _ h => h) (Or.inl ⟨by rfl, ?_⟩) ?_; rotate_left; (intro wS hSw; (try dsimp only at hSw); first | (go_simp; done) | (go_simp; with_reducible rfl) | (simp [go_sem, ↓IntWalk.iteOmega, *]; done) | (simp [go_sem, ↓IntWalk.iteOmega, *]; with_reducible rfl)); (intro hG4); clear hG3; (try simp only [Act.put, List.setIfInBounds_toArray, List.set_cons_zero, List.set_cons_succ, List.getElem_toArray, List.getElem_cons_succ, List.getElem_cons_zero])
            refine wpAnyG_any (i := 4) (v := ?_) rfl hG4 (by kernel_rfl) (by kernel_rfl) (by kernel_rfl) rfl (fun _ _ _ h => h) (Or.inl ⟨by rfl, ?_⟩) ?_; rotate_left; (intro wS hSw; (try dsimp only at hSw); first | (go_simp; done) | (go_simp; with_reducible rfl) | (simp [go_sem, ↓IntWalk.iteOmega, *]; done) | (simp [go_sem, ↓IntWalk.iteOmega, *]; with_reducible rfl)); (intro hG5); clear hG4; (try simp only [Act.put, List.setIfInBounds_toArray, List.set_cons_zero, List.set_cons_succ, List.getElem_toArray, List.getElem_cons_succ, List.getElem_cons_zero])
            refine wpAnyG_any (i := 5) (v := ?_) rfl hG5 (by kernel_rfl) (by kernel_rfl) (by kernel_rfl) rfl (fun _ _ _ h => h) (Or.inl ⟨by rfl, ?_⟩) ?_; rotate_left; (intro wS hSw; (try dsimp only at hSw); first | (go_simp; done) | (go_simp; with_reducible rfl) | (simp [go_sem, ↓IntWalk.iteOmega, *]; done) | (simp [go_sem, ↓IntWalk.iteOmega, *]; with_reducible rfl)); (intro hG6); clear hG5; (try simp only [Act.put, List.setIfInBounds_toArray, List.set_cons_zero, List.set_cons_succ, List.getElem_toArray, List.getElem_cons_succ, List.getElem_cons_zero])
            refine wpAnyG_any (i := 6) (v := ?_) rfl hG6 (by kernel_rfl) (by kernel_rfl) (by kernel_rfl) rfl (fun _ _ _ h => h) (Or.inl ⟨by rfl, ?_⟩) ?_; rotate_left; (intro wS hSw; (try dsimp only at hSw); first | (go_simp; done) | (go_simp; with_reducible rfl) | (simp [go_sem, ↓IntWalk.iteOmega, *]; done) | (simp [go_sem, ↓IntWalk.iteOmega, *]; with_reducible rfl)); (intro hG7); clear hG6; (try simp only [Act.put, List.setIfInBounds_toArray, List.set_cons_zero, List.set_cons_succ, List.getElem_toArray, List.getElem_cons_succ, List.getElem_cons_zero])
            refine wpAnyG_take (i := 7) (v := ?_) rfl hG7 (by kernel_rfl) (by kernel_rfl) (by kernel_rfl) rfl (by kernel_rfl) (fun _ _ _ h => h) (Or.inl ⟨by rfl, ?_⟩) ?_; rotate_left; (intro wS hSw; (try dsimp only at hSw); first | (go_simp; done) | (go_simp; with_reducible rfl) | (simp [go_sem, ↓IntWalk.iteOmega, *]; done) | (simp [go_sem, ↓IntWalk.iteOmega, *]; with_reducible rfl)); (intro hG8); clear hG7; (try simp only [Act.put, List.setIfInBounds_toArray, List.set_cons_zero, List.set_cons_succ, List.getElem_toArray, List.getElem_cons_succ, List.getElem_cons_zero])
            refine wpAnyG_ready (rs := [8, 12]) (by kernel_rfl) (by simp) (AllG.cons rfl hG8 (fun K hK => ?_) (AllG.cons rfl hG8 (fun K hK => ?_) AllG.nil))
            (go_simp; go_at_call 19; refine (K5.out _).mono ?_; rintro e w4 ⟨rfl, hb4⟩)
            refine hK.out _ _ (Or.inl rfl) (fun hG9 => ?_); clear hK hG8; (try simp only [Act.put, List.setIfInBounds_toArray, List.set_cons_zero, List.set_cons_succ, List.getElem_toArray, List.getElem_cons_succ, List.getElem_cons_zero])
            refine wpAnyG_any (i := 9) (v := ?_) rfl hG9 (by kernel_rfl) (by kernel_rfl) (by kernel_rfl) rfl (fun _ _ _ h => h) (Or.inl ⟨by rfl, ?_⟩) ?_; rotate_left; (intro wS hSw; (try dsimp only at hSw); first | (go_simp; done) | (go_simp; with_reducible rfl) | (simp [go_sem, ↓IntWalk.iteOmega, *]; done) | (simp [go_sem, ↓IntWalk.iteOmega, *]; with_reducible rfl)); (intro hG10); clear hG9; (try simp only [Act.put, List.setIfInBounds_toArray, List.set_cons_zero, List.set_cons_succ, List.getElem_toArray, List.getElem_cons_succ, List.getElem_cons_zero])
            refine wpAnyG_any (i := 10) (v := ?_) rfl hG10 (by kernel_rfl) (by kernel_rfl) (by kernel_rfl) rfl (fun _ _ _ h => h) (Or.inl ⟨by rfl, ?_⟩) ?_; rotate_left; (intro wS hSw; (try dsimp only at hSw); first | (go_simp; done) | (go_simp; with_reducible rfl) | (simp [go_sem, ↓IntWalk.iteOmega, *]; done) | (simp [go_sem, ↓IntWalk.iteOmega, *]; with_reducible rfl)); (intro hG11); clear hG10; (try simp only [Act.put, List.setIfInBounds_toArray, List.set_cons_zero, List.set_cons_succ, List.getElem_toArray, List.getElem_cons_succ, List.getElem_cons_zero])
            refine wpAnyG_any (i := 11) (v := ?_) rfl hG11 (by kernel_rfl) (by kernel_rfl) (by kernel_rfl) rfl (fun _ _ _ h => h) (Or.inl ⟨by rfl, ?_⟩) ?_; rotate_left; (intro wS hSw; (try dsimp only at hSw); first | (go_simp; done) | (go_simp; with_reducible rfl) | (simp [go_sem, ↓IntWalk.iteOmega, *]; done) | (simp [go_sem, ↓IntWalk.iteOmega, *]; with_reducible rfl)); (intro hG12); clear hG11; (try simp only [Act.put, List.setIfInBounds_toArray, List.set_cons_zero, List.set_cons_succ, List.getElem_toArray, List.getElem_cons_succ, List.getElem_cons_zero])
            refine wpAnyG_ready (rs := [12]) (by kernel_rfl) (by simp) (AllG.cons rfl hG12 (fun K hK => ?_) AllG.nil)
            (go_simp)
            refine hK.out _ _ (Or.inl rfl) (fun hG13 => ?_); clear hK hG12; (try simp only [Act.put, List.setIfInBounds_toArray, List.set_cons_zero, List.set_cons_succ, List.getElem_toArray, List.getElem_cons_succ, List.getElem_cons_zero])
            refine wpAnyG_ready (rs := [13]) (by kernel_rfl) (by simp) (AllG.cons rfl hG13 (fun K hK => ?_) AllG.nil)
            (go_simp)
            refine hK.out _ _ (Or.inl rfl) (fun hG14 => ?_); clear hK hG13; (try simp only [Act.put, List.setIfInBounds_toArray, List.set_cons_zero, List.set_cons_succ, List.getElem_toArray, List.getElem_cons_succ, List.getElem_cons_zero])
            refine wpAnyG_any (i := 14) (v := ?_) rfl hG14 (by kernel_rfl) (by kernel_rfl) (by kernel_rfl) rfl (fun _ _ _ h => h) (Or.inl ⟨by rfl, ?_⟩) ?_; rotate_left; (intro wS hSw; (try dsimp only at hSw); first | (go_simp; done) | (go_simp; with_reducible rfl) | (simp [go_sem, ↓IntWalk.iteOmega, *]; done) | (simp [go_sem, ↓IntWalk.iteOmega, *]; with_reducible rfl)); (intro hG15); clear hG14; (try simp only [Act.put, List.setIfInBounds_toArray, List.set_cons_zero, List.set_cons_succ, List.getElem_toArray, List.getElem_cons_succ, List.getElem_cons_zero])
            refine wpAnyG_done (by kernel_rfl) ?_ _; clear hG15
            rotate_left
            (go_simp)
            refine hK.out _ _ (Or.inr (cif (by repeat (first | exact Below.refl _ _ | refine below_dN ?_ _ | refine Below.drew ?_ | refine Below.alloc ?_ (by first | omega | (simp; done) | (simp; omega)) _ | refine Below.setCell ?_ (by first | omega | (simp; done) | (simp; omega)) _ | refine below_step (by assumption) (by first | omega | (simp; done) | (simp; omega)) ?_)))) (fun hG9 => ?_); clear hK hG8; (try simp only [Act.put, List.setIfInBounds_toArray, List.set_cons_zero, List.set_cons_succ, List.getElem_toArray, List.getElem_cons_succ, List.getElem_cons_zero])
            refine wpAnyG_ready (rs := [8]) (by kernel_rfl) (by simp) (AllG.cons rfl hG9 (fun K hK => ?_) AllG.nil)
            (go_simp; go_at_call 19; refine (K5.out _).mono ?_; rintro e w4 ⟨rfl, hb4⟩; have q0 : w4.cell? ⟨wr.heap.size, 0, none⟩ = some (.int .i64 0) := (hb4.cell (p := ⟨wr.heap.size, 0, none⟩) (by simp)).trans (by simp); have q1 : w4.cell? ⟨wr.heap.size, 1, none⟩ = some (.int .i64 0) := (hb4.cell (p := ⟨wr.heap.size, 1, none⟩) (by simp)).trans (by simp); have q2 : w4.frozen? ⟨wr.heap.size, 0, none⟩ = false := (hb4.frozen (p := ⟨wr.heap.size, 0, none⟩) (by simp)).trans (by simp); have q3 : w4.frozen? ⟨wr.heap.size, 1, none⟩ = false := (hb4.frozen (p := ⟨wr.heap.size, 1, none⟩) (by simp)).trans (by simp); have q4 : wr.heap.size < w4.heap.size := (by have := hb4.size; simp at this; omega))
            refine hK.out _ _ (Or.inl rfl) (fun hG10 => ?_); clear hK hG9; (try simp only [Act.put, List.setIfInBounds_toArray, List.set_cons_zero, List.set_cons_succ, List.getElem_toArray, List.getElem_cons_succ, List.getElem_cons_zero])
            refine wpAnyG_any (i := 9) (v := ?_) rfl hG10 (by kernel_rfl) (by kernel_rfl) (by kernel_rfl) rfl (fun _ _ _ h => h) (Or.inl ⟨by rfl, ?_⟩) ?_; rotate_left; (intro wS hSw; (try dsimp only at hSw); first | (go_simp; done) | (go_simp; with_reducible rfl) | (simp [go_sem, ↓IntWalk.iteOmega, *]; done) | (simp [go_sem, ↓IntWalk.iteOmega, *]; with_reducible rfl)); (intro hG11); clear hG10; (try simp only [Act.put, List.setIfInBounds_toArray, List.set_cons_zero, List.set_cons_succ, List.getElem_toArray, List.getElem_cons_succ, List.getElem_cons_zero])
            refine wpAnyG_any (i := 10) (v := ?_) rfl hG11 (by kernel_rfl) (by kernel_rfl) (by kernel_rfl) rfl (fun _ _ _ h => h) (Or.inl ⟨by rfl, ?_⟩) ?_; rotate_left; (intro wS hSw; (try dsimp only at hSw); first | (go_simp; done) | (go_simp; with_reducible rfl) | (simp [go_sem, ↓IntWalk.iteOmega, *]; done) | (simp [go_sem, ↓IntWalk.iteOmega, *]; with_reducible rfl)); (intro hG12); clear hG11; (try simp only [Act.put, List.setIfInBounds_toArray, List.set_cons_zero, List.set_cons_succ, List.getElem_toArray, List.getElem_cons_succ, List.getElem_cons_zero])
            refine wpAnyG_any (i := 11) (v := ?_) rfl hG12 (by kernel_rfl) (by kernel_rfl) (by kernel_rfl) rfl (fun _ _ _ h => h) (Or.inl ⟨by rfl, ?_⟩) ?_; rotate_left; (intro wS hSw; (try dsimp only at hSw); first | (go_simp; done) | (go_simp; with_reducible rfl) | (simp [go_sem, ↓IntWalk.iteOmega, *]; done) | (simp [go_sem, ↓IntWalk.iteOmega, *]; with_reducible rfl)); (intro hG13); clear hG12; (try simp only [Act.put, List.setIfInBounds_toArray, List.set_cons_zero, List.set_cons_succ, List.getElem_toArray, List.getElem_cons_succ, List.getElem_cons_zero])
            refine wpAnyG_ready (rs := [13]) (by kernel_rfl) (by simp) (AllG.cons rfl hG13 (fun K hK => ?_) AllG.nil)
            (go_simp)
            refine hK.out _ _ (Or.inl rfl) (fun hG14 => ?_); clear hK hG13; (try simp only [Act.put, List.setIfInBounds_toArray, List.set_cons_zero, List.set_cons_succ, List.getElem_toArray, List.getElem_cons_succ, List.getElem_cons_zero])
            refine wpAnyG_any (i := 14) (v := ?_) rfl hG14 (by kernel_rfl) (by kernel_rfl) (by kernel_rfl) rfl (fun _ _ _ h => h) (Or.inl ⟨by rfl, ?_⟩) ?_; rotate_left; (intro wS hSw; (try dsimp only at hSw); first | (go_simp; done) | (go_simp; with_reducible rfl) | (simp [go_sem, ↓IntWalk.iteOmega, *]; done) | (simp [go_sem, ↓IntWalk.iteOmega, *]; with_reducible rfl)); (intro hG15); clear hG14; (try simp only [Act.put, List.setIfInBounds_toArray, List.set_cons_zero, List.set_cons_succ, List.getElem_toArray, List.getElem_cons_succ, List.getElem_cons_zero])
            refine wpAnyG_done (by kernel_rfl) ?_ _; clear hG15
            rotate_left
            · have hb5 : Below wr.heap.size wr (w4.alloc (.cells #[.int .i64 p, .int .i64 q] 29)) := ((Below.refl _ _).drew.trans hb4).alloc (by have := hb4.size; exact this) _
              have s0 : (w4.alloc (.cells #[.int .i64 p, .int .i64 q] 29)).cell? ⟨w4.heap.size, 0, none⟩ = some (.int .i64 p) := by simp
              have s1 : (w4.alloc (.cells #[.int .i64 p, .int .i64 q] 29)).cell? ⟨w4.heap.size, 1, none⟩ = some (.int .i64 q) := by simp
              have sY : w4.heap.size < (w4.alloc (.cells #[.int .i64 p, .int .i64 q] 29)).heap.size := by simp
              have sZ : wr.heap.size ≤ w4.heap.size := hb4.size
              clear hb4
              obtain ⟨w5, hw5⟩ : ∃ w5, w5 = w4.alloc (.cells #[.int .i64 p, .int .i64 q] 29) := ⟨_, rfl⟩
              obtain ⟨Y, hY⟩ : ∃ Y, Y = w4.heap.size := ⟨_, rfl⟩
              rw [← hw5, ← hY] at s0 s1 sY; rw [← hw5] at hb5; rw [← hY] at sZ; rw [← hw5, ← hY]; clear hw5 hY
              obtain ⟨u0, u1, u2, u3, u4⟩ := id (hVr.up hb5)
              obtain ⟨t0, t1, t2, t3, t4⟩ := id (hSr.up hb5)
              have hb16 := hbel.trans (hb5.mono hbz)
              have z16 := hb16.size
              have hV5 := hVr.up hb5
              have hS5 := hSr.up hb5
              clear hb5
              go_wp2_with fail
              refine (KA.out _).mono ?_
              rintro e w6 ⟨rfl, hb6⟩
              have hV6 := hV5.up hb6
              have hS6 := hS5.up hb6
              have hb26 := hb16.trans (hb6.mono z16)
              have z26 := hb26.size
              clear hV5 hS5 hb6 u0 u1 u2 u3 u4 t0 t1 t2 t3 t4 s0 s1 sY sZ
              obtain ⟨u0, u1, u2, u3, u4⟩ := id hV6
              obtain ⟨t0, t1, t2, t3, t4⟩ := id hS6
              go_wp2
              refine bodyPost_ret (v := .tuple #[.agg #[.int .i64 0, .int .i64 0], .iface 35 (.int .i64 code2)]) (by simp [results, Try.results24, go_sem, ↓IntWalk.iteOmega, *]) rfl (RetFE.mk (by rw [HE.out, ← HV.out]) ?_)
              repeat (first | exact Below.refl _ _ | refine below_dN ?_ _ | refine Below.drew ?_ | refine Below.alloc ?_ (by first | omega | (simp; done) | (simp; omega)) _ | refine Below.setCell ?_ (by first | omega | (simp; done) | (simp; omega)) _ | refine below_step (by assumption) (by first | omega | (simp; done) | (simp; omega)) ?_)
            · have hb5 : Below wr.heap.size wr ((w4.setCell ⟨wr.heap.size, 0, none⟩ (.int .i64 p)).setCell ⟨wr.heap.size, 1, none⟩ (.int .i64 q)) := ((((Below.refl _ _).drew.alloc (Nat.le_refl _) _).trans (hb4.mono (by simp))).setCell (p := ⟨wr.heap.size, 0, none⟩) (Nat.le_refl _) _).setCell (p := ⟨wr.heap.size, 1, none⟩) (Nat.le_refl _) _
              have s0 : ((w4.setCell ⟨wr.heap.size, 0, none⟩ (.int .i64 p)).setCell ⟨wr.heap.size, 1, none⟩ (.int .i64 q)).cell? ⟨wr.heap.size, 0, none⟩ = some (.int .i64 p) := by rw [World.cell?_setCell_other _ _ _ _ (by simp)]; exact World.cell?_setCell_same _ _ _ q0
              have s1 : ((w4.setCell ⟨wr.heap.size, 0, none⟩ (.int .i64 p)).setCell ⟨wr.heap.size, 1, none⟩ (.int .i64 q)).cell? ⟨wr.heap.size, 1, none⟩ = some (.int .i64 q) := World.cell?_setCell_same _ _ _ ((World.cell?_setCell_other _ _ _ _ (by simp)).trans q1)
              have sY : wr.heap.size < ((w4.setCell ⟨wr.heap.size, 0, none⟩ (.int .i64 p)).setCell ⟨wr.heap.size, 1, none⟩ (.int .i64 q)).heap.size := by simpa [World.setCell] using q4
              have sZ : wr.heap.size ≤ wr.heap.size := Nat.le_refl _
              clear hb4 q0 q1 q2 q3 q4
              obtain ⟨w5, hw5⟩ : ∃ w5, w5 = ((w4.setCell ⟨wr.heap.size, 0, none⟩ (.int .i64 p)).setCell ⟨wr.heap.size, 1, none⟩ (.int .i64 q)) := ⟨_, rfl⟩
              rw [← hw5] at hb5 s0 s1 sY; rw [← hw5]; clear hw5
              obtain ⟨u0, u1, u2, u3, u4⟩ := id (hVr.up hb5)
              obtain ⟨t0, t1, t2, t3, t4⟩ := id (hSr.up hb5)
              have hb16 := hbel.trans (hb5.mono hbz)
              have z16 := hb16.size
              have hV5 := hVr.up hb5
              have hS5 := hSr.up hb5
              clear hb5
              go_wp2_with fail
              refine (KA.out _).mono ?_
              rintro e w6 ⟨rfl, hb6⟩
              have hV6 := hV5.up hb6
              have hS6 := hS5.up hb6
              have hb26 := hb16.trans (hb6.mono z16)
              have z26 := hb26.size
              clear hV5 hS5 hb6 u0 u1 u2 u3 u4 t0 t1 t2 t3 t4 s0 s1 sY sZ
              obtain ⟨u0, u1, u2, u3, u4⟩ := id hV6
              obtain ⟨t0, t1, t2, t3, t4⟩ := id hS6
              go_wp2
              refine bodyPost_ret (v := .tuple #[.agg #[.int .i64 0, .int .i64 0], .iface 35 (.int .i64 code2)]) (by simp [results, Try.results24, go_sem, ↓IntWalk.iteOmega, *]) rfl (RetFE.mk (by rw [HE.out, ← HV.out]) ?_)
              repeat (first | exact Below.refl _ _ | refine below_dN ?_ _ | refine Below.drew ?_ | refine Below.alloc ?_ (by first | omega | (simp; done) | (simp; omega)) _ | refine Below.setCell ?_ (by first | omega | (simp; done) | (simp; omega)) _ | refine below_step (by assumption) (by first | omega | (simp; done) | (simp; omega)) ?_)
          case pos =>
            subst hcode2
            simp only [errV_0] at ka
            have KA := Lib.hid ka
            clear ka
            have HN := Lib.hid (dk_ok hD.out Hx.out Hy.out)
            go_wp2_with fail
            refine wp_region_G 8 (fun w' => ∀ b o, w'.cell? ⟨b, o, none⟩ = if b < wr.heap.size then wr.cell? ⟨b, o, none⟩ else hidC w' b o) (by kernel_rfl) (cif (B := wr.heap.size) (W := wr) (Below.refl _ _).drew) ?_
            intro hG0
            refine wpAnyG_any (i := 0) (v := ?_) rfl hG0 (by kernel_rfl) (by kernel_rfl) (by kernel_rfl) rfl (fun _ _ _ h => h) (Or.inl ⟨by rfl, ?_⟩) ?_; rotate_left; (intro wS hSw; (try dsimp only at hSw); first | (go_simp; done) | (go_simp; with_reducible rfl) | (simp [go_sem, ↓IntWalk.iteOmega, *]; done) | (simp [go_sem, ↓IntWalk.iteOmega, *]; with_reducible rfl)); (intro hG1); clear hG0; (try simp only [Act.put, List.setIfInBounds_toArray, List.set_cons_zero, List.set_cons_succ, List.getElem_toArray, List.getElem_cons_succ, List.getElem_cons_zero])
            refine wpAnyG_any (i := 1) (v := ?_) rfl hG1 (by kernel_rfl) (by kernel_rfl) (by kernel_rfl) rfl (fun _ _ _ h => h) (Or.inl ⟨by rfl, ?_⟩) ?_; rotate_left; (intro wS hSw; (try dsimp only at hSw); first | (go_simp; done) | (go_simp; with_reducible rfl) | (simp [go_sem, ↓IntWalk.iteOmega, *]; done) | (simp [go_sem, ↓IntWalk.iteOmega, *]; with_reducible rfl)); (intro hG2); clear hG1; (try simp only [Act.put, List.setIfInBounds_toArray, List.set_cons_zero, List.set_cons_succ, List.getElem_toArray, List.getElem_cons_succ, List.getElem_cons_zero])
            refine wpAnyG_any (i := 2) (v := ?_) rfl hG2 (by kernel_rfl) (by kernel_rfl) (by kernel_rfl) rfl (fun _ _ _ h => h) (Or.inl ⟨by rfl, ?_⟩) ?_; rotate_left; (intro wS hSw; (try dsimp only at hSw); first | (go_simp; done) | (go_simp; with_reducible rfl) | (simp [go_sem, ↓IntWalk.iteOmega, *]; done) | (simp [go_sem, ↓IntWalk.iteOmega, *]; with_reducible rfl)); (intro hG3); clear hG2; (try simp only [Act.put, List.setIfInBounds_toArray, List.set_cons_zero, List.set_cons_succ, List.getElem_toArray, List.getElem_cons_succ, List.getElem_cons_zero])
            refine wpAnyG_take (i := 3) (v := ?_) rfl hG3 (by kernel_rfl) (by kernel_rfl) (by kernel_rfl) rfl (by kernel_rfl) (fun _ _ _ h => h) (Or.inl ⟨by rfl, ?_⟩) ?_; rotate_left; (intro wS hSw; (try dsimp only at hSw); first | (go_simp; done) | (go_simp; with_reducible rfl) | (simp [go_sem, ↓IntWalk.iteOmega, *]; done) | (simp [go_sem, ↓IntWalk.iteOmega, *]; with_reducible rfl)); (intro hG4); clear hG3; (try simp only [Act.put, List.setIfInBounds_toArray, List.set_cons_zero, List.set_cons_succ, List.getElem_toArray, List.getElem_cons_succ, List.getElem_cons_zero])
            refine wpAnyG_any (i := 4) (v := ?_) rfl hG4 (by kernel_rfl) (by kernel_rfl) (by kernel_rfl) rfl (fun _ _ _ h => h) (Or.inl ⟨by rfl, ?_⟩) ?_; rotate_left; (intro wS hSw; (try dsimp only at hSw); first | (go_simp; done) | (go_simp; with_reducible rfl) | (simp [go_sem, ↓IntWalk.iteOmega, *]; done) | (simp [go_sem, ↓IntWalk.iteOmega, *]; with_reducible rfl)); (intro hG5); clear hG4; (try simp only [Act.put, List.setIfInBounds_toArray, List.set_cons_zero, List.set_cons_succ, List.getElem_toArray, List.getElem_cons_succ, List.getElem_cons_zero])
            refine wpAnyG_any (i := 5) (v := ?_) rfl hG5 (by kernel_rfl) (by kernel_rfl) (by kernel_rfl) rfl (fun _ _ _ h => h) (Or.inl ⟨by rfl, ?_⟩) ?_; rotate_left; (intro wS hSw; (try dsimp only at hSw); first | (go_simp; done) | (go_simp; with_reducible rfl) | (simp [go_sem, ↓IntWalk.iteOmega, *]; done) | (simp [go_sem, ↓IntWalk.iteOmega, *]; with_reducible rfl)); (intro hG6); clear hG5; (try simp only [Act.put, List.setIfInBounds_toArray, List.set_cons_zero, List.set_cons_succ, List.getElem_toArray, List.getElem_cons_succ, List.getElem_cons_zero])
            refine wpAnyG_any (i := 6) (v := ?_) rfl hG6 (by kernel_rfl) (by kernel_rfl) (by kernel_rfl) rfl (fun _ _ _ h => h) (Or.inl ⟨by rfl, ?_⟩) ?_; rotate_left; (intro wS hSw; (try dsimp only at hSw); first | (go_simp; done) | (go_simp; with_reducible rfl) | (simp [go_sem, ↓IntWalk.iteOmega, *]; done) | (simp [go_sem, ↓IntWalk.iteOmega, *]; with_reducible rfl)); (intro hG7); clear hG6; (try simp only [Act.put, List.setIfInBounds_toArray, List.set_cons_zero, List.set_cons_succ, List.getElem_toArray, List.getElem_cons_succ, List.getElem_cons_zero])
            refine wpAnyG_take (i := 7) (v := ?_) rfl hG7 (by kernel_rfl) (by kernel_rfl) (by kernel_rfl) rfl (by kernel_rfl) (fun _ _ _ h => h) (Or.inl ⟨by rfl, ?_⟩) ?_; rotate_left; (intro wS hSw; (try dsimp only at hSw); first | (go_simp; done) | (go_simp; with_reducible rfl) | (simp [go_sem, ↓IntWalk.iteOmega, *]; done) | (simp [go_sem, ↓IntWalk.iteOmega, *]; with_reducible rfl)); (intro hG8); clear hG7; (try simp only [Act.put, List.setIfInBounds_toArray, List.set_cons_zero, List.set_cons_succ, List.getElem_toArray, List.getElem_cons_succ, List.getElem_cons_zero])
            refine wpAnyG_ready (rs := [8, 12]) (by kernel_rfl) (by simp) (AllG.cons rfl hG8 (fun K hK => ?_) (AllG.cons rfl hG8 (fun K hK => ?_) AllG.nil))
            (go_simp; go_at_call 19; refine (K5.out _).mono ?_; rintro e w4 ⟨rfl, hb4⟩)
            refine hK.out _ _ (Or.inl rfl) (fun hG9 => ?_); clear hK hG8; (try simp only [Act.put, List.setIfInBounds_toArray, List.set_cons_zero, List.set_cons_succ, List.getElem_toArray, List.getElem_cons_succ, List.getElem_cons_zero])
            refine wpAnyG_any (i := 9) (v := ?_) rfl hG9 (by kernel_rfl) (by kernel_rfl) (by kernel_rfl) rfl (fun _ _ _ h => h) (Or.inl ⟨by rfl, ?_⟩) ?_; rotate_left; (intro wS hSw; (try dsimp only at hSw); first | (go_simp; done) | (go_simp; with_reducible rfl) | (simp [go_sem, ↓IntWalk.iteOmega, *]; done) | (simp [go_sem, ↓IntWalk.iteOmega, *]; with_reducible rfl)); (intro hG10); clear hG9; (try simp only [Act.put, List.setIfInBounds_toArray, List.set_cons_zero, List.set_cons_succ, List.getElem_toArray, List.getElem_cons_succ, List.getElem_cons_zero])
            refine wpAnyG_any (i := 10) (v := ?_) rfl hG10 (by kernel_rfl) (by kernel_rfl) (by kernel_rfl) rfl (fun _ _ _ h => h) (Or.inl ⟨by rfl, ?_⟩) ?_; rotate_left; (intro wS hSw; (try dsimp only at hSw); first | (go_simp; done) | (go_simp; with_reducible rfl) | (simp [go_sem, ↓IntWalk.iteOmega, *]; done) | (simp [go_sem, ↓IntWalk.iteOmega, *]; with_reducible rfl)); (intro hG11); clear hG10; (try simp only [Act.put, List.setIfInBounds_toArray, List.set_cons_zero, List.set_cons_succ, List.getElem_toArray, List.getElem_cons_succ, List.getElem_cons_zero])
            refine wpAnyG_any (i := 11) (v := ?_) rfl hG11 (by kernel_rfl) (by kernel_rfl) (by kernel_rfl) rfl (fun _ _ _ h => h) (Or.inl ⟨by rfl, ?_⟩) ?_; rotate_left; (intro wS hSw; (try dsimp only at hSw); first | (go_simp; done) | (go_simp; with_reducible rfl) | (simp [go_sem, ↓IntWalk.iteOmega, *]; done) | (simp [go_sem, ↓IntWalk.iteOmega, *]; with_reducible rfl)); (intro hG12); clear hG11; (try simp only [Act.put, List.setIfInBounds_toArray, List.set_cons_zero, List.set_cons_succ, List.getElem_toArray, List.getElem_cons_succ, List.getElem_cons_zero])
            refine wpAnyG_ready (rs := [12]) (by kernel_rfl) (by simp) (AllG.cons rfl hG12 (fun K hK => ?_) AllG.nil)
            (go_simp)
            refine hK.out _ _ (Or.inl rfl) (fun hG13 => ?_); clear hK hG12; (try simp only [Act.put, List.setIfInBounds_toArray, List.set_cons_zero, List.set_cons_succ, List.getElem_toArray, List.getElem_cons_succ, List.getElem_cons_zero])
            refine wpAnyG_ready (rs := [13]) (by kernel_rfl) (by simp) (AllG.cons rfl hG13 (fun K hK => ?_) AllG.nil)
            (go_simp)
            refine hK.out _ _ (Or.inl rfl) (fun hG14 => ?_); clear hK hG13; (try simp only [Act.put, List.setIfInBounds_toArray, List.set_cons_zero, List.set_cons_succ, List.getElem_toArray, List.getElem_cons_succ, List.getElem_cons_zero])
            refine wpAnyG_any (i := 14) (v := ?_) rfl hG14 (by kernel_rfl) (by kernel_rfl) (by kernel_rfl) rfl (fun _ _ _ h => h) (Or.inl ⟨by rfl, ?_⟩) ?_; rotate_left; (intro wS hSw; (try dsimp only at hSw); first | (go_simp; done) | (go_simp; with_reducible rfl) | (simp [go_sem, ↓IntWalk.iteOmega, *]; done) | (simp [go_sem, ↓IntWalk.iteOmega, *]; with_reducible rfl)); (intro hG15); clear hG14; (try simp only [Act.put, List.setIfInBounds_toArray, List.set_cons_zero, List.set_cons_succ, List.getElem_toArray, List.getElem_cons_succ, List.getElem_cons_zero])
            refine wpAnyG_done (by kernel_rfl) ?_ _; clear hG15
            rotate_left
            (go_simp)
            refine hK.out _ _ (Or.inr (cif (by repeat (first | exact Below.refl _ _ | refine below_dN ?_ _ | refine Below.drew ?_ | refine Below.alloc ?_ (by first | omega | (simp; done) | (simp; omega)) _ | refine Below.setCell ?_ (by first | omega | (simp; done) | (simp; omega)) _ | refine below_step (by assumption) (by first | omega | (simp; done) | (simp; omega)) ?_)))) (fun hG9 => ?_); clear hK hG8; (try simp only [Act.put, List.setIfInBounds_toArray, List.set_cons_zero, List.set_cons_succ, List.getElem_toArray, List.getElem_cons_succ, List.getElem_cons_zero])
            refine wpAnyG_ready (rs := [8]) (by kernel_rfl) (by simp) (AllG.cons rfl hG9 (fun K hK => ?_) AllG.nil)
            (go_simp; go_at_call 19; refine (K5.out _).mono ?_; rintro e w4 ⟨rfl, hb4⟩; have q0 : w4.cell? ⟨wr.heap.size, 0, none⟩ = some (.int .i64 0) := (hb4.cell (p := ⟨wr.heap.size, 0, none⟩) (by simp)).trans (by simp); have q1 : w4.cell? ⟨wr.heap.size, 1, none⟩ = some (.int .i64 0) := (hb4.cell (p := ⟨wr.heap.size, 1, none⟩) (by simp)).trans (by simp); have q2 : w4.frozen? ⟨wr.heap.size, 0, none⟩ = false := (hb4.frozen (p := ⟨wr.heap.size, 0, none⟩) (by simp)).trans (by simp); have q3 : w4.frozen? ⟨wr.heap.size, 1, none⟩ = false := (hb4.frozen (p := ⟨wr.heap.size, 1, none⟩) (by simp)).trans (by simp); have q4 : wr.heap.size < w4.heap.size := (by have := hb4.size; simp at this; omega))
            refine hK.out _ _ (Or.inl rfl) (fun hG10 => ?_); clear hK hG9; (try simp only [Act.put, List.setIfInBounds_toArray, List.set_cons_zero, List.set_cons_succ, List.getElem_toArray, List.getElem_cons_succ, List.getElem_cons_zero])
            refine wpAnyG_any (i := 9) (v := ?_) rfl hG10 (by kernel_rfl) (by kernel_rfl) (by kernel_rfl) rfl (fun _ _ _ h => h) (Or.inl ⟨by rfl, ?_⟩) ?_; rotate_left; (intro wS hSw; (try dsimp only at hSw); first | (go_simp; done) | (go_simp; with_reducible rfl) | (simp [go_sem, ↓IntWalk.iteOmega, *]; done) | (simp [go_sem, ↓IntWalk.iteOmega, *]; with_reducible rfl)); (intro hG11); clear hG10; (try simp only [Act.put, List.setIfInBounds_toArray, List.set_cons_zero, List.set_cons_succ, List.getElem_toArray, List.getElem_cons_succ, List.getElem_cons_zero])
            refine wpAnyG_any (i := 10) (v := ?_) rfl hG11 (by kernel_rfl) (by kernel_rfl) (by kernel_rfl) rfl (fun _ _ _ h => h) (Or.inl ⟨by rfl, ?_⟩) ?_; rotate_left; (intro wS hSw; (try dsimp only at hSw); first | (go_simp; done) | (go_simp; with_reducible rfl) | (simp [go_sem, ↓IntWalk.iteOmega, *]; done) | (simp [go_sem, ↓IntWalk.iteOmega, *]; with_reducible rfl)); (intro hG12); clear hG11; (try simp only [Act.put, List.setIfInBounds_toArray, List.set_cons_zero, List.set_cons_succ, List.getElem_toArray, List.getElem_cons_succ, List.getElem_cons_zero])
            refine wpAnyG_any (i := 11) (v := ?_) rfl hG12 (by kernel_rfl) (by kernel_rfl) (by kernel_rfl) rfl (fun _ _ _ h => h) (Or.inl ⟨by rfl, ?_⟩) ?_; rotate_left; (intro wS hSw; (try dsimp only at hSw); first | (go_simp; done) | (go_simp; with_reducible rfl) | (simp [go_sem, ↓IntWalk.iteOmega, *]; done) | (simp [go_sem, ↓IntWalk.iteOmega, *]; with_reducible rfl)); (intro hG13); clear hG12; (try simp only [Act.put, List.setIfInBounds_toArray, List.set_cons_zero, List.set_cons_succ, List.getElem_toArray, List.getElem_cons_succ, List.getElem_cons_zero])
            refine wpAnyG_ready (rs := [13]) (by kernel_rfl) (by simp) (AllG.cons rfl hG13 (fun K hK => ?_) AllG.nil)
            (go_simp)
            refine hK.out _ _ (Or.inl rfl) (fun hG14 => ?_); clear hK hG13; (try simp only [Act.put, List.setIfInBounds_toArray, List.set_cons_zero, List.set_cons_succ, List.getElem_toArray, List.getElem_cons_succ, List.getElem_cons_zero])
            refine wpAnyG_any (i := 14) (v := ?_) rfl hG14 (by kernel_rfl) (by kernel_rfl) (by kernel_rfl) rfl (fun _ _ _ h => h) (Or.inl ⟨by rfl, ?_⟩) ?_; rotate_left; (intro wS hSw; (try dsimp only at hSw); first | (go_simp; done) | (go_simp; with_reducible rfl) | (simp [go_sem, ↓IntWalk.iteOmega, *]; done) | (simp [go_sem, ↓IntWalk.iteOmega, *]; with_reducible rfl)); (intro hG15); clear hG14; (try simp only [Act.put, List.setIfInBounds_toArray, List.set_cons_zero, List.set_cons_succ, List.getElem_toArray, List.getElem_cons_succ, List.getElem_cons_zero])
            refine wpAnyG_done (by kernel_rfl) ?_ _; clear hG15
            rotate_left
            · have hb5 : Below wr.heap.size wr (w4.alloc (.cells #[.int .i64 p, .int .i64 q] 29)) := ((Below.refl _ _).drew.trans hb4).alloc (by have := hb4.size; exact this) _
              have s0 : (w4.alloc (.cells #[.int .i64 p, .int .i64 q] 29)).cell? ⟨w4.heap.size, 0, none⟩ = some (.int .i64 p) := by simp
              have s1 : (w4.alloc (.cells #[.int .i64 p, .int .i64 q] 29)).cell? ⟨w4.heap.size, 1, none⟩ = some (.int .i64 q) := by simp
              have sY : w4.heap.size < (w4.alloc (.cells #[.int .i64 p, .int .i64 q] 29)).heap.size := by simp
              have sZ : wr.heap.size ≤ w4.heap.size := hb4.size
              clear hb4
              obtain ⟨w5, hw5⟩ : ∃ w5, w5 = w4.alloc (.cells #[.int .i64 p, .int .i64 q] 29) := ⟨_, rfl⟩
              obtain ⟨Y, hY⟩ : ∃ Y, Y = w4.heap.size := ⟨_, rfl⟩
              rw [← hw5, ← hY] at s0 s1 sY; rw [← hw5] at hb5; rw [← hY] at sZ; rw [← hw5, ← hY]; clear hw5 hY
              obtain ⟨u0, u1, u2, u3, u4⟩ := id (hVr.up hb5)
              obtain ⟨t0, t1, t2, t3, t4⟩ := id (hSr.up hb5)
              have hb16 := hbel.trans (hb5.mono hbz)
              have z16 := hb16.size
              have hV5 := hVr.up hb5
              have hS5 := hSr.up hb5
              clear hb5
              go_wp2_with fail
              refine (KA.out _).mono ?_
              rintro e w6 ⟨rfl, hb6⟩
              have hV6 := hV5.up hb6
              have hS6 := hS5.up hb6
              have hb26 := hb16.trans (hb6.mono z16)
              have z26 := hb26.size
              clear hV5 hS5 hb6 u0 u1 u2 u3 u4 t0 t1 t2 t3 t4 s0 s1 sY sZ
              obtain ⟨u0, u1, u2, u3, u4⟩ := id hV6
              obtain ⟨t0, t1, t2, t3, t4⟩ := id hS6
              go_wp2
              go_roundw
              case rel => exact ⟨k + 1, r, s, by omega, by go_num, hV6.other hne, hS6.put, HN, (hb26.setCell (p := ⟨Sb, 0, none⟩) lSle _).setCell (p := ⟨Sb, 1, none⟩) lSle _⟩
              case measure => simp [intOf]; omega
            · have hb5 : Below wr.heap.size wr ((w4.setCell ⟨wr.heap.size, 0, none⟩ (.int .i64 p)).setCell ⟨wr.heap.size, 1, none⟩ (.int .i64 q)) := ((((Below.refl _ _).drew.alloc (Nat.le_refl _) _).trans (hb4.mono (by simp))).setCell (p := ⟨wr.heap.size, 0, none⟩) (Nat.le_refl _) _).setCell (p := ⟨wr.heap.size, 1, none⟩) (Nat.le_refl _) _
              have s0 : ((w4.setCell ⟨wr.heap.size, 0, none⟩ (.int .i64 p)).setCell ⟨wr.heap.size, 1, none⟩ (.int .i64 q)).cell? ⟨wr.heap.size, 0, none⟩ = some (.int .i64 p) := by rw [World.cell?_setCell_other _ _ _ _ (by simp)]; exact World.cell?_setCell_same _ _ _ q0
              have s1 : ((w4.setCell ⟨wr.heap.size, 0, none⟩ (.int .i64 p)).setCell ⟨wr.heap.size, 1, none⟩ (.int .i64 q)).cell? ⟨wr.heap.size, 1, none⟩ = some (.int .i64 q) := World.cell?_setCell_same _ _ _ ((World.cell?_setCell_other _ _ _ _ (by simp)).trans q1)
              have sY : wr.heap.size < ((w4.setCell ⟨wr.heap.size, 0, none⟩ (.int .i64 p)).setCell ⟨wr.heap.size, 1, none⟩ (.int .i64 q)).heap.size := by simpa [World.setCell] using q4
              have sZ : wr.heap.size ≤ wr.heap.size := Nat.le_refl _
              clear hb4 q0 q1 q2 q3 q4
              obtain ⟨w5, hw5⟩ : ∃ w5, w5 = ((w4.setCell ⟨wr.heap.size, 0, none⟩ (.int .i64 p)).setCell ⟨wr.heap.size, 1, none⟩ (.int .i64 q)) := ⟨_, rfl⟩
              rw [← hw5] at hb5 s0 s1 sY; rw [← hw5]; clear hw5
              obtain ⟨u0, u1, u2, u3, u4⟩ := id (hVr.up hb5)
              obtain ⟨t0, t1, t2, t3, t4⟩ := id (hSr.up hb5)
              have hb16 := hbel.trans (hb5.mono hbz)
              have z16 := hb16.size
              have hV5 := hVr.up hb5
              have hS5 := hSr.up hb5
              clear hb5
              go_wp2_with fail
              refine (KA.out _).mono ?_
              rintro e w6 ⟨rfl, hb6⟩
              have hV6 := hV5.up hb6
              have hS6 := hS5.up hb6
              have hb26 := hb16.trans (hb6.mono z16)
              have z26 := hb26.size
              clear hV5 hS5 hb6 u0 u1 u2 u3 u4 t0 t1 t2 t3 t4 s0 s1 sY sZ
              obtain ⟨u0, u1, u2, u3, u4⟩ := id hV6
              obtain ⟨t0, t1, t2, t3, t4⟩ := id hS6
              go_wp2
              go_roundw
              case rel => exact ⟨k + 1, r, s, by omega, by go_num, hV6.other hne, hS6.put, HN, (hb26.setCell (p := ⟨Sb, 0, none⟩) lSle _).setCell (p := ⟨Sb, 1, none⟩) lSle _⟩
              case measure => simp [intOf]; omega
      · obtain rfl : a.length = k := by omega
        have HE := Lib.hid (show dotF a b = (n, d', 0) by unfold dotF; rw [if_pos H1.out]; exact hD.out)
        obtain ⟨u0, u1, u2, u3, u4⟩ := id hVr
        obtain ⟨t0, t1, t2, t3, t4⟩ := id hSr
        go_wp2
        refine bodyPost_ret (v := .tuple #[.agg #[.int .i64 n, .int .i64 d'], .nilIface]) (by simp [results, Try.results24, go_sem, ↓IntWalk.iteOmega, *]) rfl (RetFE.mk (by rw [HE.out, errV_0]) ?_)
        repeat (first | exact Below.refl _ _ | refine below_dN ?_ _ | refine Below.drew ?_ | refine Below.alloc ?_ (by first | omega | (simp; done) | (simp; omega)) _ | refine Below.setCell ?_ (by first | omega | (simp; done) | (simp; omega)) _ | refine below_step (by assumption) (by first | omega | (simp; done) | (simp; omega)) ?_)

end Go.Proofs.Ytaomaopbdilmnaa
