/- The reference's Check. -/
import Derived.Test.YtaampjhdgeoicaaRfC
namespace Go.Proofs.Ytaampjhdgeoicaa
set_option linter.unusedSimpArgs false
set_option linter.unusedVariables false
open Go Go.RowKit
set_option linter.unusedVariables false

/-- The lists that Check looks at. -/
def allL (c b : List (Int × Int)) (R : List (List (Int × Int))) : List (List (Int × Int)) := (R ++ [b]) ++ [c]
theorem allL_len (c b : List (Int × Int)) (R : List (List (Int × Int))) : (allL c b R).length = R.length + 2 := by unfold allL; simp
theorem mr_allL {c b : List (Int × Int)} {R : List (List (Int × Int))} : (∀ i, i < R.length → mr (allL c b R) i = mr R i) ∧ mr (allL c b R) R.length = b ∧ mr (allL c b R) (R.length + 1) = c := by
  have hl : (R ++ [b]).length = R.length + 1 := by simp
  refine ⟨fun i hi => ?_, ?_, ?_⟩
  · unfold allL; rw [mr_lt (by omega), mr_lt hi]
  · unfold allL; rw [mr_lt (by omega), mr_eq]
  · unfold allL
    have := mr_eq (R := R ++ [b]) (o := c)
    rw [hl] at this
    exact this
theorem any_allL (c b : List (Int × Int)) (R : List (List (Int × Int))) (x : Int) : (if !prL c || !prL b then 2 else if anyB R.length (fun i => !prL (mr R i)) then 2 else x) = if anyB (allL c b R).length (fun i => !prL (mr (allL c b R) i)) then 2 else x := by
  obtain ⟨h1, h2, h3⟩ := mr_allL (c := c) (b := b) (R := R)
  rw [allL_len, anyB_succ, anyB_succ, h2, h3]
  have h4 : anyB R.length (fun i => !prL (mr (allL c b R) i)) = anyB R.length (fun i => !prL (mr R i)) := by
    cases h : anyB R.length (fun i => !prL (mr R i))
    · exact anyB_false.2 fun i hi => by rw [h1 i hi]; exact anyB_false.1 h i hi
    · obtain ⟨i, hi, h5⟩ := anyB_true.1 h
      exact anyB_true.2 ⟨i, hi, by rw [h1 i hi]; exact h5⟩
  rw [h4]
  cases prL c <;> cases prL b <;> cases anyB R.length (fun i => !prL (mr R i)) <;> rfl
theorem mx_list2 {w : World} {A : Option Addr} {R : List (List (Int × Int))} {c : Nat} (h : MxAt w A R) (hA : A = none → c = 0) : ∃ xs, Sls w R xs ∧ ∀ wx, Below w.heap.size w wx → SrcAt wx A R.length c 1 xs := by
  obtain ⟨xs, hxs, hs⟩ := mx_list h hA
  exact ⟨xs, hxs, fun wx hb => ⟨hs.none, hs.len, fun ad e j u hj => (hb.cell (by obtain ⟨b0, o0, e0, hlt, _⟩ := h.2 (by have := (List.getElem?_eq_some_iff.1 hj).1; have := hxs.len; omega); rw [e0] at e; cases e; unfold Addr.add; split <;> exact hlt)).trans (hs.cells ad e j u hj), hs.one⟩⟩
theorem src_of2 {W : World} {H : Nat} {T : TypeId} {u v : Value} (hH : W.heap[H]? = some (.cells #[u, v] T (0, 0))) (h1 : u.oneCell' = true) (h2 : v.oneCell' = true) : SrcAt W (some ⟨H, 0, none⟩) 2 2 1 [u, v] where
  none := fun e => nomatch e
  len := rfl
  cells := fun ad e => by cases e; exact cells_of_block hH
  one := fun x hx => by
    rcases List.mem_cons.1 hx with rfl | hx
    · exact h1
    · rcases List.mem_cons.1 hx with rfl | hx
      · exact h2
      · cases hx

set_option maxRecDepth 100000 in
set_option maxHeartbeats 4000000 in
theorem rcheck_any (c : List (Int × Int)) (R : List (List (Int × Int))) (b : List (Int × Int)) (Ac AR Ab : Option Addr) (cc cR cb : Nat) (w : World) (hc : FactsAt w w.heap.size Ac c) (hR : MxAt w AR R) (hb : FactsAt w w.heap.size Ab b) (zc : Ac = none → cc = 0) (zR : AR = none → cR = 0) (zb : Ab = none → cb = 0) :
    Calls Try.prog 31 #[.slice Ac c.length cc, .slice AR R.length cR, .slice Ab b.length cb] w fun e w' => e = .returned (.int .i64 (chk37 c R b)) ∧ Below w.heap.size w w' := by
  have lc := hc.len
  have lR := hR.1
  have lb := hb.len
  have HR := Lib.hid hR
  have Hb := Lib.hid hb
  have Hc := Lib.hid hc
  obtain ⟨xs, hxs, hsrc⟩ := mx_list2 hR zR
  have HXS := Lib.hid (fun wx (h : Below w.heap.size w wx) => hxs.up h)
  have HSR := Lib.hid (fun wx (h : Below w.heap.size w wx) => hsrc wx h)
  have HZb := Lib.hid zb
  have HZc := Lib.hid zc
  obtain ⟨inr, hir, jz0, jz1, jz2⟩ := info_parts infoR7
  clear hc hR hb hxs hsrc zc zR zb
  obtain ⟨code, hcode⟩ : ∃ x, chk37 c R b = x := ⟨_, rfl⟩
  rw [hcode]
  unfold chk37 at hcode
  by_cases h1 : 24 < c.length
  · rw [if_pos (.inl h1)] at hcode
    subst hcode
    have e1 : decide ((24 : Int) < (c.length : Int)) = true := decide_eq_true (by omega)
    go_enter Try.func31, Try.ntmps31
    go_wp2
    go_ret
    exact ⟨rfl, Below.refl _ _⟩
  have e1 : decide ((24 : Int) < (c.length : Int)) = false := decide_eq_false (by omega)
  by_cases h2 : 24 < R.length
  · rw [if_pos (.inr (.inl h2))] at hcode
    subst hcode
    have e2 : decide ((24 : Int) < (R.length : Int)) = true := decide_eq_true (by omega)
    go_enter Try.func31, Try.ntmps31
    go_wp2
    go_ret
    exact ⟨rfl, Below.refl _ _⟩
  have e2 : decide ((24 : Int) < (R.length : Int)) = false := decide_eq_false (by omega)
  by_cases h3 : 24 < b.length
  · rw [if_pos (.inr (.inr h3))] at hcode
    subst hcode
    have e3 : decide ((24 : Int) < (b.length : Int)) = true := decide_eq_true (by omega)
    go_enter Try.func31, Try.ntmps31
    go_wp2
    go_ret
    exact ⟨rfl, Below.refl _ _⟩
  have e3 : decide ((24 : Int) < (b.length : Int)) = false := decide_eq_false (by omega)
  rw [if_neg (by omega)] at hcode
  by_cases h4 : R.length ≠ b.length
  · rw [if_pos h4] at hcode
    subst hcode
    have e4 : ((R.length : Int) != (b.length : Int)) = true := by simp; omega
    go_enter Try.func31, Try.ntmps31
    go_wp2
    go_ret
    exact ⟨rfl, Below.refl _ _⟩
  rw [if_neg h4] at hcode
  have e4 : ((R.length : Int) != (b.length : Int)) = false := by simp; omega
  have Hcode := Lib.hid hcode
  have H4 := Lib.hid h4
  have HS24 := Lib.hid (show c.length ≤ 24 ∧ R.length ≤ 24 ∧ b.length ≤ 24 by omega)
  clear hcode h4
  go_enter Try.func31, Try.ntmps31
  go_wp2
  clear e1 e2 e3 e4
  go_loopw [34] (fun i wr => ∃ k : Nat, k ≤ R.length ∧ i = .int .i64 k ∧ Hid (anyB k (fun i => decide ((mr R i).length ≠ c.length)) = false) ∧ Below w.heap.size w wr) (fun i _ => R.length - (intOf i).toNat)
  case atStart => exact ⟨0, by omega, rfl, rfl, Below.refl _ _⟩
  case round =>
    obtain ⟨k, hk, rfl, hB, hbel⟩ := hrel
    have hbz := hbel.size
    by_cases hlt : k < R.length
    · obtain ⟨b1, o1, ea, hb1, hc1⟩ := HR.out.at_ hlt
      subst ea
      obtain ⟨S, cS, d1, _, hS⟩ := hc1 k hlt
      have d1' := (hbel.cell (p := ⟨b1, o1 + k, none⟩) hb1).trans d1
      have g1 : b1 < wr.heap.size := by omega
      have ls := hS.len
      have k0 : (0 : Int) ≤ (k : Int) := by omega
      have k1 : (k : Int) < (R.length : Int) := by omega
      have HS : Hid (anyB (k + 1) (fun i => decide ((mr R i).length ≠ c.length)) = (anyB k (fun i => decide ((mr R i).length ≠ c.length)) || decide ((mr R k).length ≠ c.length))) := anyB_succ _ _
      clear hc1 d1 hS
      by_cases hne : (mr R k).length = c.length
      · have e5 : (((mr R k).length : Int) != (c.length : Int)) = false := by simp [hne]
        have Hs := Lib.hid (show anyB (k + 1) (fun i => decide ((mr R i).length ≠ c.length)) = false by rw [HS.out, hB.out, hne]; simp)
        clear hne
        go_wp2
        go_roundw
        case rel => exact ⟨k + 1, by omega, by go_num, Hs.out, hbel⟩
        case measure => simp [intOf]; omega
      · have e5 : (((mr R k).length : Int) != (c.length : Int)) = true := by simp; omega
        have Hc11 := Lib.hid (show 11 = code by rw [← Hcode.out, if_pos (anyB_true.2 ⟨k, hlt, decide_eq_true hne⟩)])
        clear hne
        go_wp2
        go_ret
        exact ⟨by rw [← Hc11.out]; rfl, hbel⟩
    · obtain rfl : R.length = k := by omega
      have Hcode2 := Lib.hid (show (if anyB (allL c b R).length (fun i => !prL (mr (allL c b R) i)) then 2 else if anyB b.length (fun i => decide (fv b i < 0)) then 1 else 0) = code by have h := Hcode.out; rw [if_neg (by rw [hB.out]; simp), any_allL] at h; exact h)
      obtain ⟨w7, hw7⟩ : ∃ w7 : World, w7 = wr := ⟨_, rfl⟩
      rw [← hw7] at hbel hbz ⊢
      clear hw7 hB Hcode
      have hsm := HS24.out
      have hxl := HXS.out _ hbel |>.len
      have hla := allL_len c b R
      obtain ⟨L, hL⟩ : ∃ L, L = allL c b R := ⟨_, rfl⟩
      rw [← hL] at hla Hcode2
      have HLe := Lib.hid hL
      have Hla := Lib.hid hla
      clear hL hla
      go_wp2_with (first | (at_builtin; refine wpList_append_src rfl _ _ 23 rfl w7.heap.size 22 inr (.slice none 0 0) 1 24 undR7 hir jz0 jz1 jz2 rfl (by decide) (.slice (some ⟨w7.heap.size, 0, none⟩) 0 0) 0 [] rfl (own_built (B := w7.heap.size) (e := 22) (s := 1) w7 #[] 0 (Nat.le_refl _) (by simp [maxLen]) rfl) AR R.length cR xs rfl (HSR.out _ (hbel.alloc hbz _)) (by unfold maxLen; omega) (by omega) (by simp) ?_; intro v8 w8 ho8 hg8 hat8; simp only [Nat.zero_add, List.nil_append] at ho8; have hb8 : Below w7.heap.size w7 w8 := Below.grown (show Below w7.heap.size w7 (w7.alloc (.cells #[] 22)) from (Below.refl _ _).alloc (Nat.le_refl _) _) hg8 (by simp) (fun g h => by cases h; exact Nat.le_refl _); have Ho8 := Lib.hid ho8; have z8 := hb8.size; clear ho8 hg8 hat8) | (at_builtin; refine wpList_append_src rfl _ _ 23 rfl w7.heap.size 22 inr (.slice none 0 0) 1 24 undR7 hir jz0 jz1 jz2 rfl (by decide) _ R.length xs rfl (Ho8.out.alloc _) (some ⟨w8.heap.size, 0, none⟩) 2 2 [.slice Ab b.length cb, .slice Ac c.length cc] rfl (src_of2 (heap_alloc_new _ _) rfl rfl) (by unfold maxLen; omega) (by omega) (by simp; omega) ?_; intro v9 w9 ho9 hg9 hat9; have hb9 : Below w7.heap.size w7 w9 := Below.grown (hb8.alloc z8 _) hg9 (by simp; omega) (fun g h => (Ho8.out.lt g h).1); obtain ⟨A9, c9, rfl⟩ := own_shapeL ho9 Hla.out.symm; have Ho9 := Lib.hid ho9; clear ho9 hg9 hat9))
      have hsl : Sls w9 (allL c b R) ((xs ++ [.slice Ab b.length cb]) ++ [.slice Ac c.length cc]) := ((HXS.out _ (hbel.trans (hb9.mono hbz))).push HZb.out (factsAt_up Hb.out (hbel.trans (hb9.mono hbz)))).push HZc.out (factsAt_up Hc.out (hbel.trans (hb9.mono hbz)))
      rw [← HLe.out] at hsl
      obtain ⟨A9', c9', hv9, hM9⟩ := mx_of_own (own_len (by rw [List.append_assoc]; exact Ho9.out) Hla.out.symm) hsl (by have := Hla.out; omega)
      injection hv9 with hv1 hv2 hv3
      subst hv1
      have B9 := hbel.trans (hb9.mono hbz)
      have z9 := B9.size
      have HM := Lib.hid hM9
      have HL26 := Lib.hid (show L.length ≤ 26 by have := Hla.out; omega)
      clear hM9 Ho9 hsl hbel hbz hb9 hb8 z8 Ho8 hxl hv2 hv3 hsm
      go_loopw [54] (fun i wr => ∃ k : Nat, k ≤ L.length ∧ i = .int .i64 k ∧ Hid (anyB k (fun i => !prL (mr L i)) = false) ∧ Below w.heap.size w wr ∧ Below w9.heap.size w9 wr) (fun i _ => L.length - (intOf i).toNat)
      case atStart => exact ⟨0, by omega, rfl, rfl, B9, Below.refl _ _⟩
      case round =>
        clear B9 z9
        obtain ⟨k, hk, rfl, hB, hbel, hbel9⟩ := hrel
        have hbz := hbel.size
        by_cases hlt : k < L.length
        · obtain ⟨b1, o1, ea, hb1, hc1⟩ := HM.out.at_ hlt
          subst ea
          obtain ⟨S, cS, d1, _, hS⟩ := hc1 k hlt
          have d1' := (hbel9.cell (p := ⟨b1, o1 + k, none⟩) hb1).trans d1
          have g1 : b1 < wr.heap.size := by have := hbel9.size; omega
          have ls := hS.len
          have k0 : (0 : Int) ≤ (k : Int) := by omega
          have k1 : (k : Int) < (L.length : Int) := by omega
          have HS : Hid (anyB (k + 1) (fun i => !prL (mr L i)) = (anyB k (fun i => !prL (mr L i)) || !prL (mr L k))) := anyB_succ _ _
          obtain ⟨l, hl⟩ : ∃ l, l = mr L k := ⟨_, rfl⟩
          have HG : Hid (prL l = !anyB l.length fun i => !prB (fv l i) (fx l i)) := rfl
          have Hlt := Lib.hid hlt
          rw [← hl] at d1' ls HS
          have HSl := Lib.hid (show FactsAt wr wr.heap.size S l by rw [hl]; exact factsAt_up hS hbel9)
          have Hl := Lib.hid hl
          obtain ⟨wt, hwt⟩ : ∃ wt : World, wt = wr := ⟨_, rfl⟩
          rw [← hwt] at d1' g1 HSl hbel hbel9 hbz ⊢
          have z8 := hbel9.size
          clear hwt hc1 d1 hS hb1 hl
          go_wp2
          clear d1' g1 k0 k1
          go_loopw [60] (fun i wr => ∃ j : Nat, j ≤ l.length ∧ i = .int .i64 j ∧ Hid ((anyB j fun i => !prB (fv l i) (fx l i)) = false) ∧ Below wt.heap.size wt wr) (fun i _ => l.length - (intOf i).toNat)
          case atStart => exact ⟨0, by omega, rfl, rfl, Below.refl _ _⟩
          case round =>
            obtain ⟨j, hj, rfl, hBj, hbt⟩ := hrel
            have hbtz := hbt.size
            have hbw := hbel.trans (hbt.mono hbz)
            have hbw9 := hbel9.trans (hbt.mono z8)
            by_cases hltj : j < l.length
            · obtain ⟨b2, o2, eb, hb2, hc2⟩ := HSl.out.at_ hltj
              subst eb
              have f1 := (hbt.cell (p := ⟨b2, o2 + j * 2, none⟩) hb2).trans (hc2 j hltj).1
              have f2 := (hbt.cell (p := ⟨b2, o2 + j * 2 + 1, none⟩) hb2).trans (hc2 j hltj).2
              have g2 : b2 < wr.heap.size := by omega
              have j0 : (0 : Int) ≤ (j : Int) := by omega
              have j1 : (j : Int) < (l.length : Int) := by omega
              have HSj : Hid ((anyB (j + 1) fun i => !prB (fv l i) (fx l i)) = ((anyB j fun i => !prB (fv l i) (fx l i)) || !prB (fv l j) (fx l j))) := anyB_succ _ _
              have KP := Lib.hid (fun wx => rproper_any (fv l j) (fx l j) wx)
              have hba := hbw.alloc hbw.size (.cells #[.int .i64 (fv l j), .int .i64 (fx l j)] 29)
              have hbs := hbw.size
              clear hc2
              cases e2 : prB (fv l j) (fx l j)
              · have Hf := Lib.hid (show prL l = false by rw [HG.out, anyB_true.2 ⟨j, hltj, by rw [e2]; rfl⟩]; rfl)
                have Hc2 := Lib.hid (show 2 = code by rw [← Hcode2.out, if_pos (anyB_true.2 ⟨k, Hlt.out, by rw [← Hl.out, Hf.out]; rfl⟩)])
                rw [e2] at KP
                go_wp2_with fail
                refine (KP.out _).mono ?_
                rintro e w3 ⟨rfl, hb3⟩
                go_wp2
                go_ret
                exact ⟨by rw [← Hc2.out]; rfl, hba.trans (hb3.mono (by simp; omega))⟩
              · rw [e2] at KP
                go_wp2_with fail
                refine (KP.out _).mono ?_
                rintro e w3 ⟨rfl, hb3⟩
                go_wp2
                go_roundw
                case rel => exact ⟨j + 1, by omega, by go_num, by rw [HSj.out, hBj.out, e2]; rfl, (hbt.alloc hbtz _).trans (hb3.mono (by simp; omega))⟩
                case measure => simp [intOf]; omega
            · obtain rfl : j = l.length := by omega
              have h26 := HL26.out
              have h27 := Hlt.out
              have Ht := Lib.hid (show anyB (k + 1) (fun i => !prL (mr L i)) = false by rw [HS.out, hB.out, HG.out, hBj.out]; rfl)
              go_wp2
              go_roundw
              case rel => exact ⟨k + 1, by omega, by go_num, Ht, hbw, hbw9⟩
              case measure => simp [intOf]; omega
        · obtain rfl : L.length = k := by omega
          have Hcode4 := Lib.hid (show (if anyB b.length (fun i => decide (fv b i < 0)) then 1 else 0) = code by have h := Hcode2.out; rw [if_neg (by rw [hB.out]; simp)] at h; exact h)
          go_wp2
          go_loopw [71] (fun i wr => ∃ k : Nat, k ≤ b.length ∧ i = .int .i64 k ∧ Hid (anyB k (fun i => decide (fv b i < 0)) = false) ∧ Below w.heap.size w wr) (fun i _ => b.length - (intOf i).toNat)
          case atStart => exact ⟨0, by omega, rfl, rfl, hbel⟩
          case round =>
            obtain ⟨k, hk, rfl, hB3, hbel⟩ := hrel
            have hbz := hbel.size
            by_cases hlt : k < b.length
            · obtain ⟨b1, o1, ea, hb1, hc1⟩ := Hb.out.at_ hlt
              subst ea
              have d1 := (hbel.cell (p := ⟨b1, o1 + k * 2, none⟩) hb1).trans (hc1 k hlt).1
              have d2 := (hbel.cell (p := ⟨b1, o1 + k * 2 + 1, none⟩) hb1).trans (hc1 k hlt).2
              have g1 : b1 < wr.heap.size := by omega
              have k0 : (0 : Int) ≤ (k : Int) := by omega
              have k1 : (k : Int) < (b.length : Int) := by omega
              have HS : Hid (anyB (k + 1) (fun i => decide (fv b i < 0)) = (anyB k (fun i => decide (fv b i < 0)) || decide (fv b k < 0))) := anyB_succ _ _
              clear hc1
              by_cases hn : fv b k < 0
              · have e5 : decide (fv b k < 0) = true := decide_eq_true hn
                have Hc2 := Lib.hid (show 1 = code by rw [← Hcode4.out, if_pos (anyB_true.2 ⟨k, hlt, e5⟩)])
                go_wp2
                go_ret
                exact ⟨by rw [← Hc2.out]; rfl, hbel.alloc hbz _⟩
              · have e5 : decide (fv b k < 0) = false := decide_eq_false hn
                have Hs := Lib.hid (show anyB (k + 1) (fun i => decide (fv b i < 0)) = false by rw [HS.out, hB3.out, e5]; rfl)
                go_wp2
                go_roundw
                case rel => exact ⟨k + 1, by omega, by go_num, Hs.out, hbel.alloc hbz _⟩
                case measure => simp [intOf]; omega
            · obtain rfl : b.length = k := by omega
              have Hc0 := Lib.hid (show 0 = code by rw [← Hcode4.out, if_neg (by rw [hB3.out]; simp)])
              go_wp2
              go_ret
              exact ⟨by rw [← Hc0.out]; rfl, hbel⟩

end Go.Proofs.Ytaampjhdgeoicaa
