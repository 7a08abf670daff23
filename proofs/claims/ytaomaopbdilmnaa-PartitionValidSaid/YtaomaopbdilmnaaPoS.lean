/- The law's helper sums. -/
import Derived.Test.YtaomaopbdilmnaaPoW
namespace Go.Proofs.Ytaomaopbdilmnaa
set_option linter.unusedSimpArgs false
set_option linter.unusedVariables false
open Go Go.RowKit
set_option linter.unusedVariables false

def SmRet (costs : List Int) (l : List Cut) (v : List (Int × Int)) (e : Ending) : Prop := ∃ B1 B2, e = .returned (.tuple #[.bool B1, .bool B2]) ∧ (B2 = true → B1 = true ∧ (costs.length = 0 ∨ Known v l.length))

set_option maxRecDepth 100000 in
set_option maxHeartbeats 8000000 in
theorem sums_any (costs : List Int) (l : List Cut) (v : List (Int × Int)) (A1 A2 A3 : Option Addr) (c1 c2 c3 : Nat) (w : World) (h1 : IntsAt w w.heap.size A1 costs) (h2 : CutsAt w w.heap.size A2 l) (h3 : FactsAt w w.heap.size A3 v) (hn : costs.length ≤ 1000) (g : Good38 costs l) (hv : VldQ costs l v) :
    Calls Try.prog 40 #[.slice A1 costs.length c1, .slice A2 l.length c2, .slice A3 v.length c3] w fun e w' => SmRet costs l v e ∧ Below w.heap.size w w' := by
  have H1 := Lib.hid h1
  have H2 := Lib.hid h2
  have H3 := Lib.hid h3
  have G := Lib.hid g
  have HV := Lib.hid hv
  have HLv := Lib.hid hv.len
  have l2 := g.many
  have HFF := Lib.hid (show SmRet costs l v (.returned (.tuple #[.bool false, .bool false])) from ⟨false, false, rfl, fun h => nomatch h⟩)
  clear h1 h2 h3 g hv
  go_enter Try.func40, Try.ntmps40
  go_wp2
  go_loopw [17] (fun i wr => ∃ k : Nat, k ≤ costs.length ∧ i = .int .i64 k ∧ Hid (k = 0 ∨ Known v l.length) ∧ Below w.heap.size w wr) (fun i _ => costs.length - (intOf i).toNat)
  case atStart => exact ⟨0, by omega, rfl, Lib.hid (.inl rfl), Below.refl _ _⟩
  case round =>
    obtain ⟨k, hk, rfl, hkn, hbel⟩ := hrel
    have zu := hbel.size
    by_cases hlt : k < costs.length
    · obtain ⟨b0, o0, ea, hb0, d0⟩ := H1.out.at2 hbel hlt
      subst ea
      have g0 : b0 < wr.heap.size := by omega
      have k0 : (0 : Int) ≤ (k : Int) := by omega
      have k1 : (k : Int) < (costs.length : Int) := by omega
      have HC := Lib.hid (G.out.cost k hlt)
      have HL := Lib.hid hlt
      obtain ⟨wu, hwu⟩ : ∃ wu : World, wu = wr := ⟨_, rfl⟩
      rw [← hwu] at hbel zu d0 g0 ⊢
      clear hwu
      go_wp2
      go_loopw [10, 24] (fun s i wr => ∃ j : Nat, j ≤ l.length ∧ i = .int .i64 j ∧ s = .int .i64 (isV l v k j) ∧ Hid (Known v j) ∧ Below wu.heap.size wu wr) (fun _ i _ => l.length - (intOf i).toNat)
      case atStart => exact ⟨0, by omega, rfl, rfl, Lib.hid (fun j hj => absurd hj (by omega)), Below.refl _ _⟩
      case round =>
        obtain ⟨j, hj, rfl, rfl, hkj, hbj⟩ := hrel
        obtain ⟨wz, hwz⟩ : ∃ wz : World, wz = wr := ⟨_, rfl⟩
        rw [← hwz] at hbj ⊢
        clear hwz
        have hbw := hbel.trans (hbj.mono zu)
        have zw := hbw.size
        by_cases hltj : j < l.length
        · obtain ⟨b2, o2, S, cS, eb, hb2, d1, hS, d2⟩ := H2.out.at2 hbw hltj
          subst eb
          obtain ⟨b3, o3, ec, hb3, hc3⟩ := H3.out.at_ (show j < v.length by have := HLv.out; omega)
          subst ec
          have d3 := (hbw.cell (p := ⟨b3, o3 + j * 2, none⟩) hb3).trans (hc3 j (by have := HLv.out; omega)).1
          have d4 := (hbw.cell (p := ⟨b3, o3 + j * 2 + 1, none⟩) hb3).trans (hc3 j (by have := HLv.out; omega)).2
          have g2 : b2 < wz.heap.size := by omega
          have g3 : b3 < wz.heap.size := by omega
          have j0 : (0 : Int) ≤ (j : Int) := by omega
          have j1 : (j : Int) < (l.length : Int) := by omega
          have j2 : (j : Int) < (v.length : Int) := by have := HLv.out; omega
          have lS := hS.1
          have HS := Lib.hid hS
          have HPr := Lib.hid (HV.out.pr j (by have := HLv.out; omega))
          have HKs := Lib.hid (fun (h1 : 1 ≤ fx v j) (h2 : (360360 : Int) % fx v j = 0) => (fun t ht => by
            by_cases e : t = j
            · subst e; exact ⟨h1, h2⟩
            · exact hkj.out t (by omega) : Known v (j + 1)))
          have HM : Hid (mV v j = fv v j * (360360 / fx v j)) := Lib.hid rfl
          have HLj := Lib.hid hltj
          obtain ⟨d, hd⟩ : ∃ d, d = fx v j := ⟨_, rfl⟩
          obtain ⟨a, ha⟩ : ∃ a, a = fv v j := ⟨_, rfl⟩
          rw [← hd] at d4 HKs HM
          rw [← ha] at d3 HM
          have HD := Lib.hid (show d ≤ 1048576 by have := prB_bounds HPr.out.1; omega)
          clear hc3 hS hd ha
          obtain ⟨nS, hnS⟩ : ∃ nS, nS = (cut l j).ops.length := ⟨_, rfl⟩
          obtain ⟨xS, hxS⟩ : ∃ xS, xS = (cut l j).cost := ⟨_, rfl⟩
          rw [← hnS] at d1 lS
          rw [← hxS] at d2
          have HNS := Lib.hid hnS
          clear hnS hxS
          cases e1 : decide (d < 1)
          case true =>
            go_wp2
            refine bodyPost_ret (v := .tuple #[.bool false, .bool false]) (by simp [results, Try.results40, go_sem]) rfl ⟨HFF.out, by repeat (first | exact Below.refl _ _ | refine below_dN ?_ _ | refine Below.drew ?_ | refine Below.alloc ?_ (by first | omega | (simp; done) | (simp; omega)) _ | refine Below.setCell ?_ (by first | omega | (simp; done) | (simp; omega)) _ | refine below_step (by assumption) (by first | omega | (simp; done) | (simp; omega)) ?_)⟩
          case false =>
            have hd1 : 1 ≤ d := by have := of_decide_eq_false e1; omega
            have hrem : (360360 : Int).tmod d = 360360 % d := IntWalk.rem_in _ _ (by decide)
            have hdnz : d ≠ 0 := by omega
            cases e2 : ((360360 : Int) % d != 0)
            case true =>
              go_wp2
              refine bodyPost_ret (v := .tuple #[.bool false, .bool false]) (by simp [results, Try.results40, go_sem]) rfl ⟨HFF.out, by repeat (first | exact Below.refl _ _ | refine below_dN ?_ _ | refine Below.drew ?_ | refine Below.alloc ?_ (by first | omega | (simp; done) | (simp; omega)) _ | refine Below.setCell ?_ (by first | omega | (simp; done) | (simp; omega)) _ | refine below_step (by assumption) (by first | omega | (simp; done) | (simp; omega)) ?_)⟩
            case false =>
              have hmod : (360360 : Int) % d = 0 := by simpa using e2
              have HK1 := Lib.hid (HKs.out hd1 hmod)
              have HSu : Hid (isV l v k (j + 1) = isV l v k j + if inF l k j then mV v j else 0) := Lib.hid rfl
              have hB1 := isV_le G.out HV.out HL.out HK1.out (Nat.le_succ j) (by omega)
              have hB2 := isV_le G.out HV.out HL.out HK1.out (Nat.le_refl (j + 1)) hltj
              have hC := HC.out
              obtain ⟨s, hs⟩ : ∃ s, s = isV l v k j := ⟨_, rfl⟩
              obtain ⟨m, hm⟩ : ∃ m, m = mV v j := ⟨_, rfl⟩
              obtain ⟨q, hq⟩ : ∃ q, q = (360360 : Int) / d := ⟨_, rfl⟩
              rw [← hs] at HSu hB1 ⊢
              rw [← hm] at HSu HM
              rw [← hq] at HM
              rw [HSu.out] at hB2
              have hs0 : 0 ≤ s ∧ s ≤ 1048576 * 360360 := by omega
              have hq0 : 0 ≤ q ∧ q ≤ 360360 := by
                rw [hq]
                exact ⟨Int.ediv_nonneg (by decide) (by omega), Int.ediv_le_self _ (by decide)⟩
              have Hm := Lib.hid (show inF l k j = true → 0 ≤ s + m ∧ s + m ≤ 1048576 * 360360 from fun h => by rw [h, if_pos rfl] at hB2; omega)
              have Hquo := Lib.hid (show (360360 : Int).tdiv d = q by rw [hq, Int.tdiv_eq_ediv_of_nonneg (by decide)])
              have Hasc := Lib.hid (fun i (hi : i < (cut l j).ops.length) (h0 : 0 < i) => (G.out.op j hltj i hi).2.2 h0)
              have HIn : Hid (inF l k j = inN (cut l j).ops (k : Int) (cut l j).ops.length) := Lib.hid rfl
              clear hB1 hB2 hC hs hm hq hmod e1
              go_wp2
              clear hrem e2
              have hbx : Below wz.heap.size wz (wz.alloc (.cells #[.slice S nS cS, .int .i64 xS] 94)) := (Below.refl _ _).alloc (Nat.le_refl _) _
              have hbjx := hbj.trans (hbx.mono hbj.size)
              obtain ⟨wx, hwx⟩ : ∃ wx, wx = wz.alloc (.cells #[.slice S nS cS, .int .i64 xS] 94) := ⟨_, rfl⟩
              rw [← hwx] at hbx hbjx ⊢
              have zx := hbx.size
              clear hwx
              go_loopw [10, 47] (fun u i wy => ∃ t : Nat, t ≤ nS ∧ i = .int .i64 t ∧ u = .int .i64 (s + if inN (cut l j).ops (k : Int) t then m else 0) ∧ Below wx.heap.size wx wy) (fun _ i _ => nS - (intOf i).toNat)
              case atStart => exact ⟨0, by omega, rfl, by simp [inN, anyB], Below.refl _ _⟩
              case round =>
                obtain ⟨t, ht, rfl, rfl, hby⟩ := hrel
                have hb2y := hbx.trans (hby.mono zx)
                have hbwy := hbw.trans (hb2y.mono zw)
                have zy := hby.size
                by_cases hltt : t < nS
                · have hlt2 : t < (cut l j).ops.length := by have := HNS.out; omega
                  obtain ⟨b4, o4, ee, hb4, d5⟩ := IntsAt.at2 HS.out hbwy hlt2
                  subst ee
                  have g4y : b4 < wr.heap.size := by omega
                  have g3y : b3 < wr.heap.size := by omega
                  have t0 : (0 : Int) ≤ (t : Int) := by omega
                  have t1 : (t : Int) < (nS : Int) := by omega
                  have d3y := (hb2y.cell (p := ⟨b3, o3 + j * 2, none⟩) g3).trans d3
                  have d4y := (hb2y.cell (p := ⟨b3, o3 + j * 2 + 1, none⟩) g3).trans d4
                  have HSt := Lib.hid (inN_succ (cut l j).ops (k : Int) t)
                  have HNw := Lib.hid (inN_new Hasc.out hlt2)
                  have HAt := Lib.hid (fun (h : nth (cut l j).ops t = (k : Int)) => (anyB_true.2 ⟨t, hlt2, by rw [h]; simp⟩ : inN (cut l j).ops (k : Int) (cut l j).ops.length = true))
                  obtain ⟨o, ho⟩ : ∃ o, o = nth (cut l j).ops t := ⟨_, rfl⟩
                  rw [← ho] at d5 HSt HNw HAt
                  clear ho
                  cases e3 : (o == (k : Int))
                  case true =>
                    have hok : o = (k : Int) := by simpa using e3
                    have hcur : (s + if inN (cut l j).ops (k : Int) t then m else 0) = s := by
                      have := HNw.out
                      rw [hok] at this
                      rw [this, if_neg (by decide)]; omega
                    have hin := Lib.hid (show inF l k j = true by rw [HIn.out]; exact HAt.out hok)
                    have hm2 := Hm.out hin.out
                    have hquo := Hquo.out
                    have hmv := HM.out
                    have hw1 : IntKind.i64.wrap q = q := IntWalk.i64_in _ (by omega)
                    have hw2 : IntKind.i64.wrap (a * q) = m := by rw [← hmv]; exact IntWalk.i64_in _ (by omega)
                    have hw3 : IntKind.i64.wrap (s + m) = s + m := IntWalk.i64_in _ (by omega)
                    have HF := Lib.hid (show s + m = s + if inN (cut l j).ops (k : Int) (t + 1) then m else 0 by
                      have h1 := HSt.out
                      rw [e3, Bool.or_true] at h1
                      rw [h1, if_pos rfl])
                    rw [hcur]
                    clear hcur hok hmv
                    go_wp2_with fail
                    go_quiet (fail)
                    go_wp2
                    go_roundw
                    case rel => exact ⟨t + 1, by omega, by go_num, by rw [HF.out], below_dN hby _⟩
                    case measure => simp [intOf]; omega
                  case false =>
                    have HF := Lib.hid (show (s + if inN (cut l j).ops (k : Int) t then m else 0) = s + if inN (cut l j).ops (k : Int) (t + 1) then m else 0 by
                      have h1 := HSt.out
                      rw [e3, Bool.or_false] at h1
                      rw [h1])
                    go_wp2
                    go_roundw
                    case rel => exact ⟨t + 1, by omega, by go_num, by rw [HF.out], hby⟩
                    case measure => simp [intOf]; omega
                · obtain rfl : t = nS := by omega
                  have HF := Lib.hid (show (s + if inN (cut l j).ops (k : Int) t then m else 0) = isV l v k (j + 1) by
                    rw [HSu.out, HIn.out, ← HNS.out])
                  have hbz := hbj.trans (hb2y.mono hbj.size)
                  go_wp2
                  go_roundw
                  case rel => exact ⟨j + 1, by omega, by go_num, by rw [HF.out], HK1, hbz⟩
                  case measure => simp [intOf]; omega
        · obtain rfl : j = l.length := by omega
          have hB := isV_le G.out HV.out HL.out hkj.out (Nat.le_refl _) (Nat.le_refl _)
          have hC := HC.out
          have hbww := hbel.trans (hbj.mono zu)
          obtain ⟨s, hs⟩ : ∃ s, s = isV l v k l.length := ⟨_, rfl⟩
          obtain ⟨ck, hck⟩ : ∃ ck, ck = nth costs k := ⟨_, rfl⟩
          rw [← hs] at hB ⊢
          rw [← hck] at hB hC ⊢
          have hw1 : IntKind.i64.wrap (ck * 360360) = ck * 360360 := IntWalk.i64_in _ (by omega)
          have e9 : decide (ck * 360360 < s) = false := decide_eq_false (by omega)
          clear hs hck hC hB
          go_wp2
          go_roundw
          case rel => exact ⟨k + 1, by omega, by go_num, Lib.hid (.inr hkj.out), hbww⟩
          case measure => simp [intOf]; omega
    · obtain rfl : k = costs.length := by omega
      have HTT := Lib.hid (show SmRet costs l v (.returned (.tuple #[.bool true, .bool true])) from ⟨true, true, rfl, fun _ => ⟨rfl, hkn.out⟩⟩)
      go_wp2
      refine bodyPost_ret (v := .tuple #[.bool true, .bool true]) (by simp [results, Try.results40, go_sem]) rfl ⟨HTT.out, hbel⟩

end Go.Proofs.Ytaomaopbdilmnaa
