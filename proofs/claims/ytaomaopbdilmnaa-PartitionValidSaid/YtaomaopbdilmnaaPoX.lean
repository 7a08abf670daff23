/- The law PartitionValid. -/
import Derived.Test.YtaomaopbdilmnaaPoS
import Derived.Test.YtaomaopbdilmnaaPartHV
import Derived.Test.YtaomaopbdilmnaaPartF
namespace Go.Proofs.Ytaomaopbdilmnaa
set_option linter.unusedSimpArgs false
set_option linter.unusedVariables false
open Go Go.RowKit
set_option linter.unusedVariables false

/-- Valid values lie here. -/
def VlAt (w : World) (costs : List Int) (l : List Cut) (va : Value) : Prop := ∃ (lv : List (Int × Int)) (A : Option Addr) (c : Nat), va = .slice A lv.length c ∧ FactsAt w w.heap.size A lv ∧ VldQ costs l lv
theorem VlAt.up {w w' : World} {costs : List Int} {l : List Cut} {va : Value} (h : VlAt w costs l va) (hb : Below w.heap.size w w') : VlAt w' costs l va := by
  obtain ⟨lv, A, c, e, hF, hV⟩ := h
  exact ⟨lv, A, c, e, factsAt_up hF hb, hV⟩
theorem po_val {costs : List Int} {l : List Cut} {e : Ending} {w' : World} (h : PoRet costs l e w') (h0 : chk38 costs l = 0) (hn : costs.length ≤ 24) : ∃ va cd, e = .returned (.tuple #[va, errV cd]) ∧ (cd = 5 ∨ (cd = 0 ∧ VlAt w' costs l va)) := by
  have g := good38 h0
  rcases h with ⟨hne, _⟩ | ⟨_, ⟨cd, hf, he⟩ | ⟨T, bx, hf, he, hx⟩⟩
  · exact absurd h0 hne
  · obtain rfl := opt_five g hn hf
    exact ⟨_, 5, he, .inl rfl⟩
  · refine ⟨_, 0, he, .inr ⟨rfl, _, some ⟨bx, 0, none⟩, l.length, ?_, fr_facts hx (by have := g.many; omega), vq_opt g hn hf⟩⟩
    rw [frq_len]
theorem vl_row {w : World} {B : Nat} {v : Value} {n : Nat} {xs : List Value} (h : w.ownsRow B 22 1 v n xs) (hn : 0 < n) : ∃ g c, v = .slice (some ⟨g, 0, none⟩) n c ∧ g < w.heap.size ∧ ∀ k, k < n → w.cell? ⟨g, k, none⟩ = xs[k]? := by
  obtain ⟨g, cap, rfl, _, hg⟩ := World.ownsRow.form h hn
  exact ⟨g, cap, rfl, hg, fun k hk => World.ownsRow.cellAt h k (by omega)⟩

set_option maxRecDepth 100000 in
set_option maxHeartbeats 8000000 in
theorem partitionValid_any (costs : List Int) (l : List Cut) (A1 A2 : Option Addr) (c1 c2 : Nat) (w : World) (h1 : IntsAt w w.heap.size A1 costs) (h2 : CutsAt w w.heap.size A2 l) :
    Calls Try.prog 12 #[.slice A1 costs.length c1, .slice A2 l.length c2] w fun e w' => e = .returned (.bool true) ∧ Below w.heap.size w w' := by
  have KA := Lib.hid awake38_any
  have KL := Lib.hid (fun wx (h : Below w.heap.size w wx) => large38_any costs l A1 A2 c1 c2 wx (h1.up h) (h2.up h))
  have KO := Lib.hid (fun wx (h : Below w.heap.size w wx) (hn : costs.length ≤ 24) => optimal_any costs l A1 A2 c1 c2 wx (h1.up h) (h2.up h) hn)
  have KU := Lib.hid (fun wx (h : Below w.heap.size w wx) (hn : costs.length ≤ 24) => uniform_any costs l A1 A2 c1 c2 wx (h1.up h) (h2.up h) (by omega))
  have KG := Lib.hid (fun wx (h : Below w.heap.size w wx) (hn : costs.length ≤ 24) => greedy_any costs l A1 A2 c1 c2 wx (h1.up h) (h2.up h) (by omega))
  have KV := Lib.hid (fun lv A c wx (h : Below w.heap.size w wx) (hF : FactsAt wx wx.heap.size A lv) => valid38_any costs l lv A1 A2 A c1 c2 c wx (h1.up h) (h2.up h) hF)
  have KS := Lib.hid (fun lv A c wx (h : Below w.heap.size w wx) (hF : FactsAt wx wx.heap.size A lv) (hn : costs.length ≤ 24) (g : Good38 costs l) (hv : VldQ costs l lv) => sums_any costs l lv A1 A2 A c1 c2 c wx (h1.up h) (h2.up h) hF (by omega) g hv)
  have KI5 := Lib.hid (fun wx => (by have := is_any 5 5 wx (by decide); rw [errV_5] at this; exact this : Calls Try.prog 16 #[.iface 35 (.int .i64 5), .int .i64 5] wx fun e w' => e = .returned (.bool true) ∧ wx = w'))
  have l1 := h1.len
  have l2 := h2.len
  obtain ⟨inr, hir, jz0, jz1, jz2⟩ := info_parts infoR7
  clear h1 h2
  go_enter Try.func12, Try.ntmps12
  go_wp2_with fail
  refine (KA.out _).mono ?_
  rintro e w3 ⟨rfl, hb3⟩
  have z3 := hb3.size
  go_wp2_with fail
  refine (KL.out _ hb3).mono ?_
  rintro e w4 ⟨⟨B, rfl, hB⟩, hb4⟩
  have B4 := hb3.trans (hb4.mono z3)
  have z4 := B4.size
  clear hb4 hb3 z3
  cases B
  case true =>
    clear hB
    go_wp2_with fail
    refine (KA.out _).mono ?_
    rintro e w5 ⟨rfl, hb5⟩
    have B5 := B4.trans (hb5.mono z4)
    go_wp2
    go_ret
    exact ⟨rfl, B5⟩
  case false =>
    have hn := (hB rfl).1
    have HN := Lib.hid (show costs.length ≤ 24 by omega)
    clear hB hn
    cases e8 : decide ((8 : Int) < (l.length : Int))
    case true =>
      go_wp2_with fail
      refine (KA.out _).mono ?_
      rintro e w5 ⟨rfl, hb5⟩
      have B5 := B4.trans (hb5.mono z4)
      go_wp2
      go_ret
      exact ⟨rfl, B5⟩
    have ku := KU.out
    have kg := KG.out
    unfold RetFs at ku kg
    by_cases h0 : chk38 costs l = 0
    case neg =>
      have KN := Lib.hid (fun wx => num_any (chk38 costs l) wx)
      have HV := Lib.hid (errV_ne h0)
      have ko := KO.out
      have HP := Lib.hid (fun e w' (h : PoRet costs l e w') => (by
        rcases h with ⟨_, he⟩ | ⟨h, _⟩
        · exact he
        · exact absurd h h0 : e = .returned (.tuple #[.slice none 0 0, errV (chk38 costs l)])))
      obtain ⟨ck, hck⟩ : ∃ ck, ck = chk38 costs l := ⟨_, rfl⟩
      rw [← hck] at ku kg KN HV HP
      have KU' := Lib.hid ku
      have KG' := Lib.hid kg
      clear ku kg ko hck h0
      rw [HV.out] at KU' KG' KN HP
      go_wp2_with fail
      clear e8
      refine (KU'.out _ B4 HN.out).mono ?_
      rintro e w5 ⟨⟨va, rfl, _⟩, hb5⟩
      have B5 := B4.trans (hb5.mono z4)
      have z5 := B5.size
      clear hb5
      go_wp2_with fail
      refine (KG'.out _ B5 HN.out).mono ?_
      rintro e w6 ⟨⟨vb, rfl, _⟩, hb6⟩
      have B6 := B5.trans (hb6.mono z5)
      have z6 := B6.size
      clear hb6
      go_wp2_with fail
      refine (KO.out _ B6 HN.out).mono ?_
      rintro e w7 ⟨hp, hb7⟩
      obtain rfl := HP.out _ _ hp
      have B7 := B6.trans (hb7.mono z6)
      clear hb7 hp
      go_wp2_with fail
      refine (KN.out _).mono ?_
      rintro e _ ⟨rfl, rfl⟩
      go_wp2_with fail
      refine (KN.out _).mono ?_
      rintro e _ ⟨rfl, rfl⟩
      go_wp2_with fail
      refine (KN.out _).mono ?_
      rintro e _ ⟨rfl, rfl⟩
      go_wp2_with fail
      refine (KN.out _).mono ?_
      rintro e _ ⟨rfl, rfl⟩
      go_wp2
      go_ret
      exact ⟨rfl, B7⟩
    case pos =>
      have G := Lib.hid (good38 h0)
      have H0 := Lib.hid h0
      have hm24 := G.out.many
      rw [h0, errV_0] at ku kg
      have hur : uniR costs l = uniL costs l l.length := by unfold uniR; rw [if_pos h0]
      have hgr : greR costs l = greL costs l l.length := by unfold greR; rw [if_pos h0]
      rw [hur] at ku
      rw [hgr] at kg
      have KU' := Lib.hid (fun wx (h : Below w.heap.size w wx) => ((ku wx h HN.out).mono (fun e w' ⟨⟨va, he, A, c, hv, _, hF⟩, hb⟩ => ⟨⟨va, he, _, A, c, hv, hF, vq_uni G.out⟩, hb⟩) : Calls Try.prog 37 #[.slice A1 costs.length c1, .slice A2 l.length c2] wx fun e w' => (∃ va, e = .returned (.tuple #[va, .nilIface]) ∧ VlAt w' costs l va) ∧ Below wx.heap.size wx w'))
      have KG' := Lib.hid (fun wx (h : Below w.heap.size w wx) => ((kg wx h HN.out).mono (fun e w' ⟨⟨va, he, A, c, hv, _, hF⟩, hb⟩ => ⟨⟨va, he, _, A, c, hv, hF, vq_gre G.out⟩, hb⟩) : Calls Try.prog 38 #[.slice A1 costs.length c1, .slice A2 l.length c2] wx fun e w' => (∃ va, e = .returned (.tuple #[va, .nilIface]) ∧ VlAt w' costs l va) ∧ Below wx.heap.size wx w'))
      have KO' := Lib.hid (fun wx (h : Below w.heap.size w wx) => ((KO.out wx h HN.out).mono (fun e w' ⟨hp, hb⟩ => ⟨po_val hp H0.out HN.out, hb⟩) : Calls Try.prog 33 #[.slice A1 costs.length c1, .slice A2 l.length c2] wx fun e w' => (∃ va cd, e = .returned (.tuple #[va, errV cd]) ∧ (cd = 5 ∨ (cd = 0 ∧ VlAt w' costs l va))) ∧ Below wx.heap.size wx w'))
      clear ku kg h0 hur hgr
      go_wp2_with fail
      clear e8
      refine (KU'.out _ B4).mono ?_
      rintro e w5 ⟨⟨va, rfl, hva⟩, hb5⟩
      have B5 := B4.trans (hb5.mono z4)
      have z5 := B5.size
      clear hb5
      go_wp2_with fail
      refine (KG'.out _ B5).mono ?_
      rintro e w6 ⟨⟨vb, rfl, hvb⟩, hb6⟩
      have B6 := B5.trans (hb6.mono z5)
      have z6 := B6.size
      have hva6 := hva.up hb6
      clear hb6 hva
      go_wp2_with fail
      refine (KO'.out _ B6).mono ?_
      rintro e w7 ⟨⟨vc, cd, rfl, hvc⟩, hb7⟩
      have B7 := B6.trans (hb7.mono z6)
      have z7 := B7.size
      have hva7 := hva6.up hb7
      have hvb7 := hvb.up hb7
      clear hb7 hva6 hvb B4 z4 B5 z5 B6 z6
      obtain ⟨la, Aa, ca, rfl, hFa, hVa⟩ := hva7
      obtain ⟨lb, Ab, cb, rfl, hFb, hVb⟩ := hvb7
      have HVa := Lib.hid (show VlAt w7 costs l (.slice Aa la.length ca) from ⟨la, Aa, ca, rfl, hFa, hVa⟩)
      have HVb := Lib.hid (show VlAt w7 costs l (.slice Ab lb.length cb) from ⟨lb, Ab, cb, rfl, hFb, hVb⟩)
      have HVc := Lib.hid hvc
      clear hFa hVa hFb hVb hvc
      go_upto_region 9 with fail
      have hb8 : Below w7.heap.size w7 (w7.alloc (.cells #[.slice Aa la.length ca, .slice Ab lb.length cb] 22)) := (Below.refl _ _).alloc (Nat.le_refl _) _
      have HO8 := Lib.hid (own_built (B := w7.heap.size) (e := 22) (s := 1) w7 #[.slice Aa la.length ca, .slice Ab lb.length cb] 2 (Nat.le_refl _) (by simp [maxLen]) rfl)
      obtain ⟨w8, hw8⟩ : ∃ w8, w8 = w7.alloc (.cells #[.slice Aa la.length ca, .slice Ab lb.length cb] 22) := ⟨_, rfl⟩
      obtain ⟨Hb, hHb⟩ : ∃ Hb, Hb = w7.heap.size := ⟨_, rfl⟩
      rw [← hw8] at hb8 HO8 ⊢
      have HO8' : Hid (w8.ownsRow w7.heap.size 22 1 (.slice (some ⟨Hb, 0, none⟩) 2 2) 2 [.slice Aa la.length ca, .slice Ab lb.length cb]) := Lib.hid (by rw [hHb]; exact HO8.out)
      rw [← hHb]
      clear hw8 hHb HO8
      have B8 := B7.trans (hb8.mono z7)
      have z8 := B8.size
      have hcd : cd = 5 ∨ cd = 0 := by rcases HVc.out with h | ⟨h, _⟩; exact .inl h; exact .inr h
      go_cut [71] (fun v wx => v = .bool (decide (cd = 0)) ∧ Below w8.heap.size w8 wx)
      case first =>
        rcases hcd with rfl | rfl
        · simp only [errV_5]
          go_wp2
          go_meet
          case rel => exact ⟨rfl, Below.refl _ _⟩
        · simp only [errV_0]
          go_wp2
          go_meet
          case rel => exact ⟨rfl, Below.refl _ _⟩
      case rest =>
        obtain ⟨rfl, hbc⟩ := hcut
        have HO9 := Lib.hid (own_below HO8'.out hbc)
        have hb9 := hb8.trans (hbc.mono hb8.size)
        obtain ⟨w9, hw9⟩ : ∃ w9 : World, w9 = wc := ⟨_, rfl⟩
        rw [← hw9] at HO9 hb9 ⊢
        clear hw9 hbc HO8' hb8 B8 z8
        go_upto_if 71 with fail
        go_cut [11] (fun v wx => ∃ (nL g c : Nat), nL ≤ 3 ∧ v = .slice (some ⟨g, 0, none⟩) nL c ∧ Hid (g < wx.heap.size ∧ ∀ k, k < nL → ∃ x, wx.cell? ⟨g, k, none⟩ = some x ∧ VlAt wx costs l x) ∧ Below w7.heap.size w7 wx)
        case first =>
          cases e0 : decide (cd = 0)
          case false =>
            have hcell := fun k hk => World.ownsRow.cellAt HO9.out k hk
            have hlt := (HO9.out.lt Hb rfl).2
            have HC0 := Lib.hid hcell
            clear hcell
            go_wp2
            go_meet
            case rel =>
              refine ⟨2, Hb, 2, by omega, rfl, Lib.hid ⟨hlt, fun k hk => ?_⟩, hb9⟩
              rcases k with _ | _ | k
              · exact ⟨_, HC0.out 0 (by decide), HVa.out.up hb9⟩
              · exact ⟨_, HC0.out 1 (by decide), HVb.out.up hb9⟩
              · omega
          case true =>
            have hvc : VlAt w7 costs l vc := by
              rcases HVc.out with h | ⟨_, h⟩
              · exact absurd (of_decide_eq_true e0) (by omega)
              · exact h
            have HVd := Lib.hid hvc
            obtain ⟨lc, Ac, cc, rfl, _, _⟩ := hvc
            have z9 := hb9.size
            go_wp2_with (at_builtin; refine wpList_push rfl _ _ 23 rfl w7.heap.size 22 inr (.slice none 0 0) 1 24 undR7 hir jz0 jz1 jz2 rfl (by decide) (by decide) _ 2 [.slice Aa la.length ca, .slice Ab lb.length cb] rfl (HO9.out.alloc _) w9.heap.size 22 [.slice Ac lc.length cc] rfl rfl (heap_alloc_new _ _) (one_one rfl) (by omega) (by first | omega | (simp; omega)) (B := w7.heap.size) (W := w7) (hb9.alloc z9 _) (Nat.le_refl _) ?_; intro v10 w10 ho10 hg10 hat10 hb10; obtain ⟨g, c, rfl, hgl, hcell⟩ := vl_row ho10 (by omega); have HC0 := Lib.hid hcell; clear ho10 hg10 hat10 hcell)
            go_meet
            case rel =>
              refine ⟨3, g, c, by omega, rfl, Lib.hid ⟨hgl, fun k hk => ?_⟩, hb10⟩
              rcases k with _ | _ | _ | k
              · exact ⟨_, HC0.out 0 (by decide), HVa.out.up hb10⟩
              · exact ⟨_, HC0.out 1 (by decide), HVb.out.up hb10⟩
              · exact ⟨_, HC0.out 2 (by decide), HVd.out.up hb10⟩
              · omega
        case rest =>
          obtain ⟨nL, g, c, hnL, rfl, hL, hbc⟩ := hcut
          obtain ⟨wt, hwt⟩ : ∃ wt : World, wt = wc := ⟨_, rfl⟩
          rw [← hwt] at hL hbc ⊢
          clear hwt HO9 hb9
          have Bt := B7.trans (hbc.mono z7)
          have zt := Bt.size
          go_wp2
          go_loopw [78] (fun i wr => ∃ k : Nat, k ≤ nL ∧ i = .int .i64 k ∧ Below wt.heap.size wt wr) (fun i _ => nL - (intOf i).toNat)
          case atStart => exact ⟨0, by omega, rfl, Below.refl _ _⟩
          case round =>
            obtain ⟨k, hk, rfl, hbel⟩ := hrel
            obtain ⟨wu, hwu⟩ : ∃ wu : World, wu = wr := ⟨_, rfl⟩
            rw [← hwu] at hbel ⊢
            clear hwu
            have zu := hbel.size
            by_cases hlt : k < nL
            · obtain ⟨hgt, hall⟩ := hL.out
              obtain ⟨x, hx, lv, A, c', rfl, hF, hV⟩ := hall k hlt
              have d0 := (hbel.cell (p := ⟨g, k, none⟩) hgt).trans hx
              have g0 : g < wu.heap.size := by omega
              have k0 : (0 : Int) ≤ (k : Int) := by omega
              have k1 : (k : Int) < (nL : Int) := by omega
              have lF := hF.len
              have e1 : ((lv.length : Int) != (l.length : Int)) = false := by have := hV.len; simp; omega
              have hlv : lv.length ≤ 24 := by have := hV.len; omega
              have HF := Lib.hid (factsAt_up hF hbel)
              have HQ := Lib.hid hV
              have HP := Lib.hid (fun t (ht : t < lv.length) wx => (hV.pr t ht).1 ▸ rproper_any (fv lv t) (fx lv t) wx)
              clear hall hx hF hV
              go_wp2
              clear d0 g0
              go_loopw [89] (fun i wr => ∃ t : Nat, t ≤ lv.length ∧ i = .int .i64 t ∧ Below wu.heap.size wu wr) (fun i _ => lv.length - (intOf i).toNat)
              case atStart => exact ⟨0, by omega, rfl, Below.refl _ _⟩
              case round =>
                obtain ⟨t, ht, rfl, hbj⟩ := hrel
                have zj := hbj.size
                by_cases hltt : t < lv.length
                · obtain ⟨b3, o3, ec, hb3, hc3⟩ := HF.out.at_ hltt
                  subst ec
                  have d1 := (hbj.cell (p := ⟨b3, o3 + t * 2, none⟩) hb3).trans (hc3 t hltt).1
                  have d2 := (hbj.cell (p := ⟨b3, o3 + t * 2 + 1, none⟩) hb3).trans (hc3 t hltt).2
                  have g3 : b3 < wr.heap.size := by omega
                  have t0 : (0 : Int) ≤ (t : Int) := by omega
                  have t1 : (t : Int) < (lv.length : Int) := by omega
                  have K1 := Lib.hid (HP.out t hltt)
                  have q1 := (HQ.out.pr t hltt).2
                  clear hc3
                  go_wp2_with fail
                  refine (K1.out _).mono ?_
                  rintro e w10 ⟨rfl, hb10⟩
                  have s0 := (hb10.cell (p := ⟨wr.heap.size, 0, none⟩) (by simp)).trans (show _ = some (.int .i64 (fv lv t)) by simp)
                  have s2 : wr.heap.size < w10.heap.size := by have := hb10.size; simp at this; omega
                  have e3 : decide (fv lv t < 0) = false := decide_eq_false (by omega)
                  have hb11 := hbj.trans (((Below.refl wr.heap.size wr).alloc (Nat.le_refl _) (.cells #[.int .i64 (fv lv t), .int .i64 (fx lv t)] 29)).trans (hb10.mono (by simp)) |>.mono zj)
                  clear hb10
                  go_wp2
                  go_roundw
                  case rel => exact ⟨t + 1, by omega, by go_num, hb11⟩
                  case measure => simp [intOf]; omega
                · obtain rfl : t = lv.length := by omega
                  have hbw := hbel.trans (hbj.mono zu)
                  have Bw := Bt.trans (hbw.mono zt)
                  have zw := Bw.size
                  have KSu := KS.out lv A c' wr Bw (factsAt_up HF.out hbj) HN.out G.out HQ.out
                  have KS1 := Lib.hid KSu
                  clear KSu
                  go_wp2_with fail
                  refine KS1.out.mono ?_
                  rintro e w12 ⟨⟨b1, b2, rfl, hbb⟩, hb12⟩
                  have hb22 := hbw.trans (hb12.mono hbw.size)
                  have B12 := Bt.trans (hb22.mono zt)
                  have HF2 := Lib.hid (factsAt_up HF.out (hbj.trans (hb12.mono zj)))
                  clear hb12
                  cases b2
                  case false =>
                    clear hbb
                    go_wp2
                    go_roundw
                    case rel => exact ⟨k + 1, by omega, by go_num, hb22⟩
                    case measure => simp [intOf]; omega
                  case true =>
                    obtain ⟨rfl, hkn⟩ := hbb rfl
                    have hvl := vq_vld H0.out HQ.out hkn
                    have KVu := KV.out lv A c' w12 B12 HF2.out
                    rw [hvl] at KVu
                    have KV1 := Lib.hid KVu
                    clear KVu hvl hkn hbb
                    go_wp2_with fail
                    refine KV1.out.mono ?_
                    rintro e w13 ⟨rfl, hb13⟩
                    have hb23 := hb22.trans (hb13.mono hb22.size)
                    clear hb13
                    go_wp2
                    go_roundw
                    case rel => exact ⟨k + 1, by omega, by go_num, hb23⟩
                    case measure => simp [intOf]; omega
            · obtain rfl : k = nL := by omega
              have Bu := Bt.trans (hbel.mono zt)
              rcases hcd with rfl | rfl
              · simp only [errV_5]
                go_wp2_with fail
                refine (KI5.out _).mono ?_
                rintro e _ ⟨rfl, rfl⟩
                go_wp2
                go_ret
                exact ⟨rfl, Bu⟩
              · simp only [errV_0]
                go_wp2
                go_ret
                exact ⟨rfl, Bu⟩

end Go.Proofs.Ytaomaopbdilmnaa
