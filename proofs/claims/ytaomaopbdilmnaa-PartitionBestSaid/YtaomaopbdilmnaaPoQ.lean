/- The law PartitionBest. -/
import Derived.Test.YtaomaopbdilmnaaPoP
import Derived.Test.YtaomaopbdilmnaaPartHR
import Derived.Test.YtaomaopbdilmnaaPartF
namespace Go.Proofs.Ytaomaopbdilmnaa
set_option linter.unusedSimpArgs false
set_option linter.unusedVariables false
open Go Go.RowKit
set_option linter.unusedVariables false

set_option maxRecDepth 100000 in
set_option maxHeartbeats 8000000 in
theorem partitionBest_any (costs : List Int) (l : List Cut) (v : List (Int × Int)) (A1 A2 A3 : Option Addr) (c1 c2 c3 : Nat) (w : World) (h1 : IntsAt w w.heap.size A1 costs) (h2 : CutsAt w w.heap.size A2 l) (h3 : FactsAt w w.heap.size A3 v) :
    Calls Try.prog 11 #[.slice A1 costs.length c1, .slice A2 l.length c2, .slice A3 v.length c3] w fun e w' => e = .returned (.bool true) ∧ Below w.heap.size w w' := by
  have KA := Lib.hid awake38_any
  have KL := Lib.hid (fun wx (h : Below w.heap.size w wx) => large38_any costs l A1 A2 c1 c2 wx (h1.up h) (h2.up h))
  have KO := Lib.hid (fun wx (h : Below w.heap.size w wx) (hn : costs.length ≤ 24) => optimal_any costs l A1 A2 c1 c2 wx (h1.up h) (h2.up h) hn)
  have KU := Lib.hid (fun wx (h : Below w.heap.size w wx) (hn : costs.length ≤ 24) => uniform_any costs l A1 A2 c1 c2 wx (h1.up h) (h2.up h) (by omega))
  have KG := Lib.hid (fun wx (h : Below w.heap.size w wx) (hn : costs.length ≤ 24) => greedy_any costs l A1 A2 c1 c2 wx (h1.up h) (h2.up h) (by omega))
  have KV := Lib.hid (fun lv A c wx (h : Below w.heap.size w wx) (hF : FactsAt wx wx.heap.size A lv) => rvalid38_any costs l lv A1 A2 A c1 c2 c wx (h1.up h) (h2.up h) hF)
  have KS := Lib.hid sum_any
  have H3 := Lib.hid h3
  have l1 := h1.len
  have l2 := h2.len
  have l3 := h3.len
  clear h1 h2 h3
  go_enter Try.func11, Try.ntmps11
  go_wp2_with fail
  refine (KA.out _).mono ?_
  rintro e w3 ⟨rfl, hb3⟩
  have z3 := hb3.size
  go_wp2_with fail
  refine (KL.out _ hb3).mono ?_
  rintro e w4 ⟨⟨B, rfl, hB⟩, hb4⟩
  have B4 := hb3.trans (hb4.mono z3)
  have z4 := B4.size
  clear hb4 hb3 z3
  cases B
  case true =>
    clear hB
    go_wp2_with fail
    refine (KA.out _).mono ?_
    rintro e w5 ⟨rfl, hb5⟩
    have B5 := B4.trans (hb5.mono z4)
    go_wp2
    go_ret
    exact ⟨rfl, B5⟩
  case false =>
    have hn := (hB rfl).1
    have HN := Lib.hid (show costs.length ≤ 24 by omega)
    clear hB hn
    cases e8 : decide ((8 : Int) < (l.length : Int))
    case true =>
      go_wp2_with fail
      refine (KA.out _).mono ?_
      rintro e w5 ⟨rfl, hb5⟩
      have B5 := B4.trans (hb5.mono z4)
      go_wp2
      go_ret
      exact ⟨rfl, B5⟩
    cases e10 : decide ((10 : Int) < (v.length : Int))
    case true =>
      go_wp2_with fail
      refine (KA.out _).mono ?_
      rintro e w5 ⟨rfl, hb5⟩
      have B5 := B4.trans (hb5.mono z4)
      go_wp2
      go_ret
      exact ⟨rfl, B5⟩
    go_wp2_with fail
    clear e8 e10
    refine (KO.out _ B4 HN.out).mono ?_
    rintro e w5 ⟨hp, hb5⟩
    have B5 := B4.trans (hb5.mono z4)
    have z5 := B5.size
    clear hb5 B4 z4
    rcases hp with ⟨hne, he⟩ | ⟨h0, ⟨cd, hf, he⟩ | ⟨T, bx, hf, he, hx⟩⟩
    · rw [errV_ne hne] at he
      obtain rfl := he
      clear hne
      go_wp2
      go_ret
      exact ⟨rfl, by repeat (first | exact Below.refl _ _ | refine below_dN ?_ _ | refine Below.drew ?_ | refine Below.alloc ?_ (by first | omega | (simp; done) | (simp; omega)) _ | refine Below.setCell ?_ (by first | omega | (simp; done) | (simp; omega)) _ | refine below_step (by assumption) (by first | omega | (simp; done) | (simp; omega)) ?_)⟩
    · obtain rfl := he
      clear hf h0
      go_wp2
      go_ret
      exact ⟨rfl, by repeat (first | exact Below.refl _ _ | refine below_dN ?_ _ | refine Below.drew ?_ | refine Below.alloc ?_ (by first | omega | (simp; done) | (simp; omega)) _ | refine Below.setCell ?_ (by first | omega | (simp; done) | (simp; omega)) _ | refine below_step (by assumption) (by first | omega | (simp; done) | (simp; omega)) ?_)⟩
    · subst he
      have G := Lib.hid (good38 h0)
      have HF := Lib.hid hf
      have H0 := Lib.hid h0
      have hm24 := G.out.many
      have hFb := fr_facts hx (by omega)
      have hk := KS.out (frq (xB (keptL costs l).length T) l.length) (some ⟨bx, 0, none⟩) l.length w5 hFb
      rw [frq_len] at hk
      obtain ⟨⟨tp, tq, tc⟩, hs⟩ : ∃ r, sumF (frq (xB (keptL costs l).length T) l.length) = r := ⟨_, rfl⟩
      have HTop := Lib.hid (fun h => top_eq G.out HN.out HF.out (T := T) h)
      rw [hs] at hk HTop
      unfold RetFE at hk
      dsimp only at hk HTop
      clear hFb hx hs h0 hf
      by_cases htc : tc = 0
      case neg =>
        have HV := Lib.hid (errV_ne htc)
        simp only [HV.out] at hk
        have K5 := Lib.hid hk
        clear hk htc
        go_wp2_with fail
        refine K5.out.mono ?_
        rintro e w6 ⟨rfl, hb6⟩
        have B6 := B5.trans (hb6.mono z5)
        have z6 := B6.size
        clear hb6
        go_wp2
        go_ret
        exact ⟨rfl, by repeat (first | exact Below.refl _ _ | refine below_dN ?_ _ | refine Below.drew ?_ | refine Below.alloc ?_ (by first | omega | (simp; done) | (simp; omega)) _ | refine Below.setCell ?_ (by first | omega | (simp; done) | (simp; omega)) _ | refine below_step (by assumption) (by first | omega | (simp; done) | (simp; omega)) ?_)⟩
      case pos =>
        subst htc
        simp only [errV_0] at hk
        have K5 := Lib.hid hk
        have hT := HTop.out rfl
        injection hT with ht1 ht2
        injection ht2 with ht2 _
        have HT1 := Lib.hid ht1
        have HT2 := Lib.hid ht2
        clear hk ht1 ht2 HTop
        go_wp2_with fail
        refine K5.out.mono ?_
        rintro e w6 ⟨rfl, hb6⟩
        have B6 := B5.trans (hb6.mono z5)
        have z6 := B6.size
        have hV7 : Own2 (w6.alloc (.cells #[.int .i64 tp, .int .i64 tq] 29)) w6.heap.size tp tq := Own2.new
        have B7 := B6.alloc z6 (.cells #[.int .i64 tp, .int .i64 tq] 29)
        clear hb6
        have ku := KU.out
        have kg := KG.out
        unfold RetFs at ku kg
        rw [H0.out, errV_0] at ku kg
        have KU' := Lib.hid ku
        have KG' := Lib.hid kg
        clear ku kg
        go_upto_region 9 with fail
        obtain ⟨w7, hw7⟩ : ∃ w7, w7 = w6.alloc (.cells #[.int .i64 tp, .int .i64 tq] 29) := ⟨_, rfl⟩
        obtain ⟨VB, hVB⟩ : ∃ VB, VB = w6.heap.size := ⟨_, rfl⟩
        rw [← hw7, ← hVB] at hV7 ⊢
        rw [← hw7] at B7
        clear hw7 hVB B6 z6 B5 z5
        have z7 := B7.size
        go_wp2_with fail
        refine (KU'.out _ B7 HN.out).mono ?_
        rintro e w8 ⟨⟨va, rfl, Aa, ca, rfl, _, ga⟩, hb8⟩
        have B8 := B7.trans (hb8.mono z7)
        have z8 := B8.size
        have hV8 := hV7.up hb8
        obtain ⟨la, hla⟩ : ∃ la, la = uniR costs l := ⟨_, rfl⟩
        rw [← hla] at ga ⊢
        have GA := Lib.hid ga
        clear hb8 ga hla hV7
        go_wp2_with fail
        refine (KG'.out _ B8 HN.out).mono ?_
        rintro e w9 ⟨⟨vb, rfl, Ab, cb, rfl, _, gb⟩, hb9⟩
        have B9 := B8.trans (hb9.mono z8)
        have z9 := B9.size
        have hV9 := hV8.up hb9
        obtain ⟨lb, hlb⟩ : ∃ lb, lb = greR costs l := ⟨_, rfl⟩
        rw [← hlb] at gb ⊢
        have GA9 := Lib.hid (factsAt_up GA.out hb9)
        have GB := Lib.hid gb
        clear hb9 gb hlb hV8 GA B8 z8 B7 z7
        go_wp2
        have hb10 : Below w9.heap.size w9 (w9.alloc (.cells #[.slice Aa la.length ca, .slice Ab lb.length cb, .slice A3 v.length c3] 22)) := (Below.refl _ _).alloc (Nat.le_refl _) _
        have HL := Lib.hid (show ∀ k, k < 3 → ∃ (lv : List (Int × Int)) (A : Option Addr) (c : Nat), (w9.alloc (.cells #[.slice Aa la.length ca, .slice Ab lb.length cb, .slice A3 v.length c3] 22)).cell? ⟨w9.heap.size, k, none⟩ = some (.slice A lv.length c) ∧ FactsAt (w9.alloc (.cells #[.slice Aa la.length ca, .slice Ab lb.length cb, .slice A3 v.length c3] 22)) (w9.alloc (.cells #[.slice Aa la.length ca, .slice Ab lb.length cb, .slice A3 v.length c3] 22)).heap.size A lv from fun k hk => by
          rcases k with _ | _ | _ | k
          · exact ⟨la, Aa, ca, by simp, factsAt_up GA9.out hb10⟩
          · exact ⟨lb, Ab, cb, by simp, factsAt_up GB.out hb10⟩
          · exact ⟨v, A3, c3, by simp, factsAt_up H3.out (B9.trans (hb10.mono z9))⟩
          · omega)
        have hV10 := hV9.up hb10
        have B10 := B9.trans (hb10.mono z9)
        have hH : w9.heap.size < (w9.alloc (.cells #[.slice Aa la.length ca, .slice Ab lb.length cb, .slice A3 v.length c3] 22)).heap.size := by simp
        obtain ⟨wt, hwt⟩ : ∃ wt, wt = w9.alloc (.cells #[.slice Aa la.length ca, .slice Ab lb.length cb, .slice A3 v.length c3] 22) := ⟨_, rfl⟩
        obtain ⟨Hb, hHb⟩ : ∃ Hb, Hb = w9.heap.size := ⟨_, rfl⟩
        rw [← hwt, ← hHb] at HL hH ⊢
        rw [← hwt] at hV10 B10
        clear hwt hHb hb10 hV9 B9 z9
        have zt := B10.size
        go_loopw [74] (fun i wr => ∃ k : Nat, k ≤ 3 ∧ i = .int .i64 k ∧ Below wt.heap.size wt wr) (fun i _ => 3 - (intOf i).toNat)
        case atStart => exact ⟨0, by omega, rfl, Below.refl _ _⟩
        case round =>
          obtain ⟨k, hk, rfl, hbel⟩ := hrel
          have hbz := hbel.size
          have Br := B10.trans (hbel.mono zt)
          have zr := Br.size
          by_cases hlt : k < 3
          · obtain ⟨lv, A, c, d0, hF⟩ := HL.out k hlt
            have d1 := (hbel.cell (p := ⟨Hb, k, none⟩) hH).trans d0
            have g1 : Hb < wr.heap.size := by omega
            have k0 : (0 : Int) ≤ (k : Int) := by omega
            have k1 : (k : Int) < 3 := by omega
            have lF := hF.len
            have KV' := KV.out lv A c wr Br (factsAt_up hF hbel)
            have HF' := Lib.hid hF
            have HBL := Lib.hid (fun hv h => best_le (v := lv) (T := T) G.out HN.out HF.out hv h)
            clear d0 hF
            cases hv : vldB costs l lv
            · rw [hv] at KV'
              have K6 := Lib.hid KV'
              clear KV' hv HBL
              go_wp2_with fail
              refine K6.out.mono ?_
              rintro e w12 ⟨rfl, hb12⟩
              have hb22 := hbel.trans (hb12.mono hbz)
              clear hb12
              go_wp2
              go_roundw
              case rel => exact ⟨k + 1, by omega, by go_num, hb22⟩
              case measure => simp [intOf]; omega
            · rw [hv] at KV'
              have K6 := Lib.hid KV'
              have HB2 := Lib.hid (HBL.out hv)
              clear KV' hv HBL
              go_wp2_with fail
              refine K6.out.mono ?_
              rintro e w12 ⟨rfl, hb12⟩
              have hb22 := hbel.trans (hb12.mono hbz)
              have z22 := hb22.size
              have hs := KS.out lv A c w12 (factsAt_up HF'.out hb22)
              obtain ⟨⟨sp, sq, sc⟩, hss⟩ : ∃ r, sumF lv = r := ⟨_, rfl⟩
              rw [hss] at hs HB2
              unfold RetFE at hs
              dsimp only at hs HB2
              clear hss hb12
              by_cases hsc : sc = 0
              case neg =>
                have HV := Lib.hid (errV_ne hsc)
                simp only [HV.out] at hs
                have K7 := Lib.hid hs
                clear hs hsc
                go_wp2_with fail
                refine K7.out.mono ?_
                rintro e w13 ⟨rfl, hb13⟩
                have hb23 := hb22.trans (hb13.mono z22)
                have z23 := hb23.size
                clear hb13
                go_wp2
                go_roundw
                case rel => exact ⟨k + 1, by omega, by go_num, by repeat (first | exact Below.refl _ _ | refine below_dN ?_ _ | refine Below.drew ?_ | refine Below.alloc ?_ (by first | omega | (simp; done) | (simp; omega)) _ | refine Below.setCell ?_ (by first | omega | (simp; done) | (simp; omega)) _ | refine below_step (by assumption) (by first | omega | (simp; done) | (simp; omega)) ?_)⟩
                case measure => simp [intOf]; omega
              case pos =>
                subst hsc
                simp only [errV_0] at hs
                have K7 := Lib.hid hs
                have hle := HB2.out rfl
                rw [← HT1.out, ← HT2.out] at hle
                obtain ⟨cv, hcv⟩ : ∃ cv, cv = cmpF sp sq tp tq := ⟨_, rfl⟩
                have KC := Lib.hid (fun wx => (by have := cmp_any sp sq tp tq wx; rw [← hcv] at this; exact this : Calls Try.prog 18 #[.agg #[.int .i64 sp, .int .i64 sq], .agg #[.int .i64 tp, .int .i64 tq]] wx fun e w' => e = .returned (.int .i64 cv) ∧ Below wx.heap.size wx w'))
                rw [← hcv] at hle
                have e1 : decide (0 < cv) = false := decide_eq_false (by omega)
                clear hs hcv hle
                go_wp2_with fail
                refine K7.out.mono ?_
                rintro e w13 ⟨rfl, hb13⟩
                have hb23 := hb22.trans (hb13.mono z22)
                have z23 := hb23.size
                have hV13 := hV10.up hb23
                obtain ⟨y0, y1, y2, _, _⟩ := id hV13
                clear hb13
                go_wp2_with fail
                refine (KC.out _).mono ?_
                rintro e w14 ⟨rfl, hb14⟩
                have hb24 := hb23.trans (((Below.refl _ _).alloc (Nat.le_refl _) _).trans (hb14.mono (by simp)) |>.mono z23)
                clear hb14
                go_wp2
                go_roundw
                case rel => exact ⟨k + 1, by omega, by go_num, hb24⟩
                case measure => simp [intOf]; omega
          · obtain rfl : k = 3 := by omega
            go_wp2
            go_ret
            exact ⟨rfl, Br⟩

end Go.Proofs.Ytaomaopbdilmnaa
