/- regress.cases, walked. -/
import Derived.Test.YtlkebhiaimijiaaGreatDoorNgH
namespace Go.Proofs.YtlkebhiaimijiaaGreatDoor
set_option linter.unusedSimpArgs false
set_option linter.unusedVariables false
open Go Go.RowKit
set_option linter.unusedVariables false

theorem vinfE : (Tryz.prog.info? 65).map (fun i => (i.zero, i.size, i.bytes)) = some (some (.agg #[.slice none 0 0, .int .i64 0, .int .i64 0]), 3, 40) := by kernel_rfl
theorem vundE : Tryz.prog.underlying 61 = some (.slice 65) := by kernel_rfl
theorem own_own_ne {w : World} {B B' s s' n n' : Nat} {e e' : TypeId} {v v' : Value} {xs ys : List Value} (h : w.ownsRow B e s v n xs) (h' : w.ownsRow B' e' s' v' n' ys) (hne : e ≠ e') : v.ownBlock = none ∨ v.ownBlock ≠ v'.ownBlock := by
 rcases h.2 with ⟨rfl, _⟩ | ⟨g, cap, cur, rfl, _, hg, _⟩
 ·exact .inl rfl
 ·refine .inr fun he => ?_
  rcases h'.2 with ⟨rfl, _⟩ | ⟨g', cap', cur', rfl, _, hg', _⟩
  ·cases he
  ·have e1 : g = g' := by simpa [Value.ownBlock] using he
   subst e1
   rw [hg] at hg'
   injection hg' with hg'
   injection hg' with _ h2
   exact hne h2
theorem one_hdV (h : Hd) : ∀ u ∈ [h.v], u.oneCell' = true := by intro u hu; simp at hu; subst hu; rfl
theorem drop_eff {es : List Eff} {a j : Nat} : eff (es.drop a) j = eff es (a + j) := by unfold eff; simp only [List.getD, List.getElem?_drop]
theorem take_effs {es : List Eff} {j : Nat} (h : j < es.length) : es.take (j + 1) = es.take j ++ [eff es j] := eff_take h
theorem anyB_hls {os : List Hd} {z : List Fct} : anyB os.length (fun j => decide ((hd os j).l = z)) = decide (z ∈ hls os) := by
 rw [Bool.eq_iff_iff, anyB_true, decide_eq_true_eq, mem_hls]
 constructor
 ·rintro ⟨k, hk, h⟩; exact ⟨k, hk, (of_decide_eq_true h).symm⟩
 ·rintro ⟨k, hk, h⟩; exact ⟨k, hk, decide_eq_true h.symm⟩
theorem hls_take {hs : List Hd} {k : Nat} (h : k < hs.length) : (hls hs).take (k + 1) = (hls hs).take k ++ [(hd hs k).l] := by
 have h' : k < (hls hs).length := by rw [hls_len]; exact h
 rw [← List.take_append_getElem h', ← hls_hd h, List.getD_eq_getElem?_getD, List.getElem?_eq_getElem h']; rfl
theorem rls_one {w : World} {H : Nat} {bad : Nat → Prop} {x : Hd} (h : BxI w H 23 #[x.v]) (hb : ¬ bad H) (hf : Fac w bad x.a x.l) : Rls w bad (some ⟨H, 0, none⟩) [x] :=
 ⟨by simp, fun _ => ⟨H, 0, rfl, h.lt, hb, fun k hk => by
  obtain rfl : k = 0 := by simpa using hk
  exact h.cell 0 x.v rfl⟩, fun y hy => by simp at hy; subst hy; exact hf⟩

/-- What the outer loop keeps. -/
structure CaI (vars : List Int) (es : List Eff) (f : Fct) (w : World) (q : Nat → Prop) (m : Nat) (xs : List Value) (EV : Value) (p : Nat) (os : List Hd) (O : Value) (wr : World) : Prop where
 gr : Gr0 w q os O wr
 nodup : (hls os).Nodup
 mem : ∀ z, z ∈ hls os ↔ CsM vars es f p z
 fa : ∀ z ∈ hls os, faB vars z = true
 box : BxI wr (w.heap.size + 1) 68 #[.int .i64 f.1, .int .i64 f.2]
 own : wr.ownsRow w.heap.size 65 3 EV m xs
theorem CaI.up {vars : List Int} {es : List Eff} {f : Fct} {w : World} {q : Nat → Prop} {m : Nat} {xs : List Value} {EV : Value} {p : Nat} {os : List Hd} {O : Value} {wr w1 : World} (h : CaI vars es f w q m xs EV p os O wr) (k : Below wr.heap.size wr w1) : CaI vars es f w q m xs EV p os O w1 :=
 { h with gr := h.gr.up k, box := h.box.up k, own := own_below h.own k }

set_option maxRecDepth 20000 in
set_option maxHeartbeats 32000000 in
theorem cases_any (vars : List Int) (o : Opr) (f : Fct) (q : Nat → Prop) (av S T : Option Addr) (cv c d : Nat) (w : World) (h1 : IntsAt w w.heap.size av vars) (h2 : Efs w q T o.effs) (hq : ∀ b, w.heap.size ≤ b → ¬ q b) (ho : EffsOk vars o.effs) (hf : faB vars [f] = true) (hv : vars.length ≤ 64) (hdm : ∀ k, k < vars.length → nth vars k ≤ 64) (hel : o.effs.length ≤ 64) :
    Calls Tryz.prog 99 #[.slice av vars.length cv, .agg #[.string o.name, .int .i64 o.cost, .slice S o.pre.length c, .slice T o.effs.length d], .agg #[.int .i64 f.1, .int .i64 f.2]] w fun e w' => CasRet vars q (CaseS vars o.effs f) w e w' ∧ Below w.heap.size w w' := by
  obtain ⟨fv, fx⟩ := f
  dsimp only
  have H1 := Lib.hid h1
  have H2 := Lib.hid h2
  have HQ := Lib.hid hq
  have HOK := Lib.hid ho
  have HF := Lib.hid hf
  obtain ⟨inf, hinf, iz0, iz1, iz2⟩ := info_parts ninfL
  obtain ⟨ine, hine, ie0, ie1, ie2⟩ := info_parts vinfE
  obtain ⟨W0, hW0⟩ : ∃ W0, W0 = (w.alloc (.cells #[.string o.name, .int .i64 o.cost, .slice S o.pre.length c, .slice T o.effs.length d] 63)).alloc (.cells #[.int .i64 fv, .int .i64 fx] 68) := ⟨_, rfl⟩
  have HB0 := Lib.hid (show Below w.heap.size w W0 by rw [hW0]; exact ((Below.refl _ _).alloc (Nat.le_refl _) _).alloc (by simp) _)
  have x0 : W0.cell? ⟨w.heap.size, 3, none⟩ = some (.slice T o.effs.length d) := by rw [hW0]; exact ((BxI.new w 63 #[.string o.name, .int .i64 o.cost, .slice S o.pre.length c, .slice T o.effs.length d]).up ((Below.refl _ _).alloc (Nat.le_refl _) _)).cell 3 _ rfl
  have HBF := Lib.hid (show BxI W0 (w.heap.size + 1) 68 #[.int .i64 fv, .int .i64 fx] by rw [hW0]; exact BxI.new2 w _ _ _)
  obtain ⟨n0, hn0⟩ : ∃ n0, n0 = o.effs.length := ⟨_, rfl⟩
  rw [← hn0] at x0 hel
  have HN0 := Lib.hid hn0
  clear h1 h2 hq ho hf
  go_enter Tryz.func99, Tryz.ntmps99
  go_wp2_with fail
  rw [← hW0, ← hn0]
  have HW0 := Lib.hid hW0
  clear hW0 hn0
  go_wp2_with fail
  clear x0
  go_loopw [8, 23] (fun v8 v23 wr => ∃ (k m : Nat) (xs : List Value) (EA : Option Addr) (EC : Nat), v8 = .slice EA m EC ∧ v23 = .int .i64 k ∧ k ≤ n0 ∧ Hid (m = (effsOn (o.effs.take k) fv).length) ∧ m ≤ k ∧ Hid (wr.ownsRow w.heap.size 65 3 (.slice EA m EC) m xs) ∧ Hid (EfIs w q xs (effsOn (o.effs.take k) fv)) ∧ Hid (BxI wr (w.heap.size + 1) 68 #[.int .i64 fv, .int .i64 fx]) ∧ Hid (Below w.heap.size w wr)) (fun _ v23 _ => n0 - (intOf v23).toNat)
  case atStart => exact ⟨0, 0, [], none, 0, rfl, rfl, by omega, Lib.hid rfl, by omega, Lib.hid (World.ownsRow_nil _ _ _ _), Lib.hid (EfIs.nil _ _), HBF, HB0⟩
  case round =>
    obtain ⟨k, m, xs, EA, EC, rfl, rfl, hk, HM, hmk, HO, HEF, HX, HE⟩ := hrel
    obtain ⟨wt, rfl⟩ : ∃ wt : World, wt = wr := ⟨_, rfl⟩
    have hbz := HE.out.size
    have hXlt := HX.out.lt
    by_cases hlt : k < n0
    · have hke : k < o.effs.length := by rw [← HN0.out]; exact hlt
      obtain ⟨tb, tof, hT, htb, _, htc⟩ := H2.out.2 (by omega)
      obtain ⟨S', c', e1, e2, e3, e4⟩ := htc k hke
      have d1 := (HE.out.cell (p := ⟨tb, tof + k * 3, none⟩) htb).trans e1
      have d2 := (HE.out.cell (p := ⟨tb, tof + k * 3 + 1, none⟩) htb).trans e3
      have d3 := (HE.out.cell (p := ⟨tb, tof + k * 3 + 2, none⟩) htb).trans e4
      obtain ⟨e, he⟩ : ∃ e, e = eff o.effs k := ⟨_, rfl⟩
      rw [← he] at d1 d2 d3 e2
      have HEE := Lib.hid he
      have HFA := Lib.hid e2
      have hwl : e.whn.length ≤ 140737488355328 := e2.1
      have x1 := HX.out.cell 0 (.int .i64 fv) rfl
      have hsn := effsOn_snoc (o.effs.take k) e fv
      rw [he, ← take_effs hke, ← he] at hsn
      have HSN := Lib.hid hsn
      have g2 : tb < wt.heap.size := by omega
      clear htc e1 e2 e3 e4 he hsn
      rw [hT]
      by_cases hev : e.var = fv
      · have HS2 := Lib.hid (show effsOn (o.effs.take (k + 1)) fv = effsOn (o.effs.take k) fv ++ [e] by rw [HSN.out, if_pos hev])
        go_wp2_with (at_builtin; refine wpList_append_src (by rfl) _ _ 61 (by rfl) w.heap.size 65 ine (.agg #[.slice none 0 0, .int .i64 0, .int .i64 0]) 3 40 vundE hine ie0 ie1 ie2 rfl (by decide) (.slice EA m EC) m xs (by rfl) (by exact (HO.out.alloc _).alloc _) (some ⟨wt.heap.size + 1, 0, none⟩) 1 1 [.slice S' e.whn.length c', .int .i64 fv, .int .i64 e.val] (by rfl) (src_of (BxI.new2 wt _ 65 _) rfl (by intro u hu; simp at hu; rcases hu with rfl | rfl | rfl <;> rfl)) (by unfold maxLen; omega) (by omega) (by first | omega | (simp; done) | (simp; omega)) ?_; intro v4 w4 hown4 hgrow4 hat4; obtain ⟨A4, c4, rfl⟩ := own_shape hown4; have HO4 := Lib.hid hown4; have HG4 := Lib.hid hgrow4; clear hown4 hgrow4 hat4)
        have HU := Lib.hid (show Below wt.heap.size wt ((wt.alloc (.cells #[.slice S' e.whn.length c', .int .i64 fv, .int .i64 e.val] 65)).alloc (.cells #[.slice S' e.whn.length c', .int .i64 fv, .int .i64 e.val] 65)) from ((Below.refl _ _).alloc (Nat.le_refl _) _).alloc (by simp) _)
        go_roundw
        case rel => exact ⟨k + 1, m + 1, xs ++ [.slice S' e.whn.length c', .int .i64 fv, .int .i64 e.val], A4, c4, rfl, by go_num, by omega, Lib.hid (by rw [HS2.out, List.length_append, HM.out]; rfl), by omega, HO4, Lib.hid (by have hpu := HEF.out.push (e := e) (c := c') HFA.out; rw [hev] at hpu; rw [HS2.out]; exact hpu), Lib.hid ((HX.out.up HU.out).grown HG4.out (own_ne_bx (own_below HO.out HU.out) (HX.out.up HU.out) (by decide))), Lib.hid ((HE.out.trans (HU.out.mono hbz)).grown HG4.out (by simp; omega) (fun b hb => (HO.out.lt b hb).1))⟩
        case measure => simp [intOf]; omega
      · have HS2 := Lib.hid (show effsOn (o.effs.take (k + 1)) fv = effsOn (o.effs.take k) fv by rw [HSN.out, if_neg hev])
        go_wp2
        go_roundw
        case rel => exact ⟨k + 1, m, xs, EA, EC, rfl, by go_num, by omega, Lib.hid (by rw [HS2.out]; exact HM.out), by omega, Lib.hid (HO.out.alloc _), Lib.hid (by rw [HS2.out]; exact HEF.out), Lib.hid (HX.out.up ((Below.refl _ _).alloc (Nat.le_refl _) _)), Lib.hid (HE.out.alloc hbz _)⟩
        case measure => simp [intOf]; omega
    · obtain ⟨es, hes⟩ : ∃ es, es = effsOn o.effs fv := ⟨_, rfl⟩
      have htk : o.effs.take k = o.effs := List.take_of_length_le (by rw [← HN0.out]; omega)
      have hm := HM.out
      have hef := HEF.out
      rw [htk, ← hes] at hm hef
      have HM2 := Lib.hid hm
      have HEF2 := Lib.hid hef
      have HES := Lib.hid hes
      have hm64 : m ≤ 64 := by omega
      clear HM HEF htk hm hef hes hmk
      have hmi : (m : Int) - 1 = ((m + 1 : Nat) : Int) - 2 := by omega
      go_wp2_with fail
      go_loopw [11, 12] (fun v11 v12 wr => ∃ (p : Nat) (pv : Int) (os : List Hd) (OA : Option Addr) (OC : Nat), v11 = .slice OA os.length OC ∧ v12 = .int .i64 pv ∧ pv = (p : Int) - 2 ∧ p ≤ m + 1 ∧ os.length + 1024 * p ≤ 1024 * (m + 1) ∧ Hid (CaI vars es (fv, fx) w q m xs (.slice EA m EC) p os (.slice OA os.length OC) wr)) (fun _ v12 _ => (intOf v12 + 2).toNat)
      case atStart => exact ⟨m + 1, _, [], none, 0, rfl, rfl, by omega, by omega, by simp, Lib.hid { gr := Gr0.nil HE.out, nodup := List.nodup_nil, mem := fun z => ⟨(fun h => by cases h), fun h => (by rw [HM2.out] at h; exact absurd h csM_start)⟩, fa := (fun z hz => by cases hz), box := HX.out, own := HO.out }⟩
      case round =>
        clear HE HX HO
        obtain ⟨p, pv, os, OA, OC, rfl, rfl, hpv, hp, hol, HC⟩ := hrel
        obtain ⟨wu, rfl⟩ : ∃ wu : World, wu = wr := ⟨_, rfl⟩
        have hwz := HC.out.gr.bel.size
        have y0 := HC.out.box.cell 0 (.int .i64 fv) rfl
        have y1 := HC.out.box.cell 1 (.int .i64 fx) rfl
        have hFlt := HC.out.box.lt
        -- PHASE2
        rcases p with _ | _ | r
        · obtain rfl : pv = -2 := by omega
          clear hpv
          have HFI := Lib.hid (show ∀ z, z ∈ hls os ↔ CaseS vars o.effs (fv, fx) z from fun z => by rw [HC.out.mem, HES.out]; exact csM_all (f := (fv, fx)))
          have hos : os.length ≤ 1024 * 65 := by omega
          by_cases hbig : 1024 < os.length
          · have Hnp := Lib.hid (show 1025 ≤ npV vars by have := np_bound HC.out.nodup HC.out.fa; rw [hls_len] at this; omega)
            have e1 : decide ((1024 : Int) < os.length) = true := decide_eq_true (by omega)
            go_wp2
            refine bodyPost_ret (v := .tuple #[.slice none 0 0, .iface 49 (.int .i64 5)]) (by simp [results, Tryz.results99, go_sem]) rfl ⟨.inr ⟨rfl, Hnp.out⟩, HC.out.gr.bel⟩
          · have e1 : decide ((1024 : Int) < os.length) = false := decide_eq_false (by omega)
            go_wp2
            refine bodyPost_ret (v := .tuple #[.slice OA os.length OC, .nilIface]) (by simp [results, Tryz.results99, go_sem]) rfl ⟨.inl ⟨OA, OC, os, rfl, HC.out.gr, HC.out.nodup, HFI.out, HC.out.fa, by omega⟩, HC.out.gr.bel⟩
        · obtain rfl : pv = -1 := by omega
          clear hpv
          go_wp2_with fail
          obtain ⟨wx, hwx⟩ : ∃ wx, wx = (wu.alloc (.cells #[.int .i64 fv, .int .i64 fx] 68)).alloc (.cells #[.slice (some ⟨wu.heap.size, 0, none⟩) 1 1] 23) := ⟨_, rfl⟩
          rw [← hwx]
          have HU := Lib.hid (show Below wu.heap.size wu wx by rw [hwx]; exact ((Below.refl _ _).alloc (Nat.le_refl _) _).alloc (by simp) _)
          have HCX := Lib.hid (HC.out.up HU.out)
          obtain ⟨bl, hbl⟩ : ∃ bl : List Fct, bl = [(fv, fx)] := ⟨_, rfl⟩
          have HBL := Lib.hid hbl
          have HBF := Lib.hid (show faB vars bl = true by rw [hbl]; exact HF.out)
          have HLS := Lib.hid (show Rls wx (fun b => (Value.slice OA os.length OC).ownBlock = some b ∨ q b) (some ⟨wu.heap.size + 1, 0, none⟩) [(⟨some ⟨wu.heap.size, 0, none⟩, 1, bl⟩ : Hd)] from rls_one (by rw [hwx, hbl]; exact BxI.new2 wu _ _ _) (fun hb => by
            rcases hb with hb | hb
            · have := (HC.out.gr.own.lt _ hb).2; omega
            · exact HQ.out _ (by omega) hb) (by rw [hbl]; rw [hwx]; exact fac_one ((BxI.new wu 68 #[.int .i64 fv, .int .i64 fx]).up ((Below.refl _ _).alloc (Nat.le_refl _) _)) (fun hb => by
              rcases hb with hb | hb
              · have := (HC.out.gr.own.lt _ hb).2; omega
              · exact HQ.out _ (by omega) hb)))
          have HST := Lib.hid (show ∀ z, CsM vars es (fv, fx) (0) z ↔ CsM vars es (fv, fx) (1) z ∨ SilS vars fx (es.drop (0)) (fun y => y = bl) z from fun z => by rw [hbl]; rw [csM_last, List.drop_zero])
          have hxz := HU.out.size
          clear hwx hbl y0 y1 HC
          go_loopw [13, 68] (fun v13 v68 wr => ∃ (j : Nat) (hs : List Hd) (LA : Option Addr) (LC : Nat), v13 = .slice LA hs.length LC ∧ v68 = .int .i64 j ∧ j ≤ m - (0) ∧ hs.length ≤ 1024 ∧ Hid (Rls wr (fun b => (Value.slice OA os.length OC).ownBlock = some b ∨ q b) LA hs) ∧ Hid (∀ z, z ∈ hls hs ↔ SilS vars fx ((es.drop (0)).take j) (fun y => y = bl) z) ∧ Hid (∀ z ∈ hls hs, faB vars z = true) ∧ Hid (Below wx.heap.size wx wr)) (fun _ v68 _ => m - (0) - (intOf v68).toNat)
          case atStart => exact ⟨0, [(⟨some ⟨wu.heap.size, 0, none⟩, 1, bl⟩ : Hd)], some ⟨wu.heap.size + 1, 0, none⟩, 1, rfl, rfl, by omega, by simp, HLS, Lib.hid (fun z => (by show z ∈ [bl] ↔ z = bl; simp)), Lib.hid (fun z hz => (by have hz' : z ∈ [bl] := hz; simp at hz'; rw [hz']; exact HBF.out)), Lib.hid (Below.refl _ _)⟩
          case round =>
            clear HLS
            obtain ⟨j, hs, LA, LC, rfl, rfl, hj, hhl, HL, HME, HFA, HE⟩ := hrel
            obtain ⟨wv, rfl⟩ : ∃ wv : World, wv = wr := ⟨_, rfl⟩
            have hvz := HE.out.size
            have z1 := (HCX.out.box.up HE.out).cell 1 (.int .i64 fx) rfl
            have hFlt2 := (HCX.out.box.up HE.out).lt
            by_cases hlt2 : j < m
            · have haj : 0 + j < es.length := by rw [← HM2.out]; omega
              obtain ⟨S', c', e1, e2, e3, e4⟩ := HEF2.out.2 (0 + j) haj
              obtain ⟨g, rfl⟩ : ∃ g, EA = some ⟨g, 0, none⟩ := by
                rcases HCX.out.own.2 with ⟨h0, h5⟩ | ⟨g, cap, cur, h5, _⟩
                · omega
                · injection h5 with h5; exact ⟨g, h5⟩
              have hoe := own_below HCX.out.own HE.out
              have d1 := own_cell hoe e1
              have d2 := own_cell hoe e3
              have d3 := own_cell hoe e4
              have hgl := (hoe.lt g rfl).2
              obtain ⟨e, he⟩ : ∃ e, e = eff es (0 + j) := ⟨_, rfl⟩
              rw [← he] at d1 d2 d3 e2
              simp only [Nat.zero_add] at d1 d2 d3
              have hem : e ∈ o.effs := by
                have h5 : e ∈ effsOn o.effs fv := by rw [← HES.out, he]; exact eff_mem haj
                exact (mem_on.1 h5).1
              have HWF := Lib.hid (HOK.out e hem).1
              have HFC := Lib.hid e2
              have hwl : e.whn.length ≤ 140737488355328 := e2.1
              have HTK := Lib.hid (show (es.drop (0)).take (j + 1) = (es.drop (0)).take j ++ [e] by rw [take_effs (by rw [List.length_drop, ← HM2.out]; omega), drop_eff, ← he])
              clear hoe e1 e2 e3 e4 he hem haj
              by_cases hev : e.val = fx
              · have HME2 := Lib.hid (show ∀ z, z ∈ hls hs ↔ SilS vars fx ((es.drop (0)).take (j + 1)) (fun y => y = bl) z from fun z => by rw [HTK.out, silS_snoc, if_pos hev]; exact HME.out z)
                go_wp2
                go_roundw
                case rel => exact ⟨j + 1, hs, LA, LC, rfl, by go_num, by omega, hhl, Lib.hid (HL.out.up ((Below.refl _ _).alloc (Nat.le_refl _) _)), HME2, HFA, Lib.hid (HE.out.alloc hvz _)⟩
                case measure => simp [intOf]; omega
              · have HEV := Lib.hid hev
                obtain ⟨W2, hW2⟩ : ∃ W2, W2 = wv.alloc (.cells #[.slice S' e.whn.length c', .int .i64 e.var, .int .i64 e.val] 65) := ⟨_, rfl⟩
                have HB2 := Lib.hid (show Below wv.heap.size wv W2 by rw [hW2]; exact (Below.refl _ _).alloc (Nat.le_refl _) _)
                have HBw2 := Lib.hid (show Below w.heap.size w W2 from (HCX.out.gr.bel.trans (HE.out.mono HCX.out.gr.bel.size)).trans (HB2.out.mono (Nat.le_trans HCX.out.gr.bel.size hvz)))
                have KS := Lib.hid (silent_any vars e av S' cv c' W2 (H1.out.up HBw2.out) (HFC.out.up (HBw2.out)).at_ HWF.out hv hdm)
                go_wp2_with fail
                rw [← hW2]
                have HW2 := Lib.hid hW2
                clear hW2 d1 d2 d3 z1
                refine KS.out.mono ?_
                rintro ee w3 ⟨hcs, hb3⟩
                have HE3 := Lib.hid (show Below wx.heap.size wx w3 from (HE.out.trans (HB2.out.mono hvz)).trans (hb3.mono (Nat.le_trans hvz HB2.out.size)))
                have HL3 := Lib.hid ((HL.out.up HB2.out).up hb3)
                have hz3 := hb3.size
                have hz2 := HB2.out.size
                clear hb3 KS
                rcases hcs with ⟨A3, c3, os3, rfl, horl, _, hme3, hfa3, hl3⟩ | ⟨rfl, hnp⟩
                · have HRQ := Lib.hid (show Rls w3 (fun _ => False) A3 os3 from Orl.rls ⟨horl.own, fun x hx => (horl.fac x hx).sub (fun _ _ h => h.elim)⟩ (by omega) (fun _ _ _ h => h))
                  have HM3 := Lib.hid hme3
                  have KJ := Lib.hid (rjoin_any vars hs os3 LA A3 LC c3 w3 (HL3.out.sub (fun _ _ h => h.elim)) HRQ.out (fun h hh => HFA.out _ (List.mem_map.2 ⟨h, hh, rfl⟩)) (fun h hh => hfa3 _ (List.mem_map.2 ⟨h, hh, rfl⟩)) (by omega))
                  clear horl hme3 hfa3
                  go_wp2_with fail
                  refine KJ.out.mono ?_
                  rintro ee w4 ⟨hcs, hb4⟩
                  have HE4 := Lib.hid (show Below wx.heap.size wx w4 from HE3.out.trans (hb4.mono (by omega)))
                  clear hb4 KJ
                  rcases hcs with ⟨A4, c4, os4, rfl, horl, _, hme4, hfa4, hl4⟩ | ⟨rfl, hnp⟩
                  · have HR4 := Lib.hid (show Rls w4 (fun b => (Value.slice OA os.length OC).ownBlock = some b ∨ q b) A4 os4 from Orl.rls ⟨horl.own, fun x hx => (horl.fac x hx).sub (fun b hb h => by
                        left
                        rcases h with h | h
                        · have := (HCX.out.gr.own.lt b h).2; omega
                        · rcases Nat.lt_or_ge b w3.heap.size with h5 | h5
                          · exact h5
                          · exact absurd h (HQ.out b (by have := HCX.out.gr.bel.size; omega)))⟩ (by omega) (fun b off e h => by
                        subst e
                        have h6 := (horl.own.lt b rfl).1
                        rcases h with h | h
                        · have := (HCX.out.gr.own.lt b h).2; omega
                        · exact HQ.out b (by have := HCX.out.gr.bel.size; omega) h))
                    have HM4 := Lib.hid (show ∀ z, z ∈ hls os4 ↔ SilS vars fx ((es.drop (0)).take (j + 1)) (fun y => y = bl) z from fun z => by
                      rw [HTK.out, silS_snoc, if_neg HEV.out, hme4]
                      constructor
                      · rintro ⟨x, hx, y, hy, h⟩; exact ⟨x, y, (HME.out x).1 hx, (HM3.out y).1 hy, h⟩
                      · rintro ⟨x, y, hx, hy, h⟩; exact ⟨x, (HME.out x).2 hx, y, (HM3.out y).2 hy, h⟩)
                    have HF4 := Lib.hid hfa4
                    clear horl hme4 hfa4
                    go_wp2
                    go_roundw
                    case rel => exact ⟨j + 1, os4, A4, c4, rfl, by go_num, by omega, hl4, HR4, HM4, HF4, HE4⟩
                    case measure => simp [intOf]; omega
                  · go_wp2
                    refine bodyPost_ret (v := .tuple #[.slice none 0 0, .iface 49 (.int .i64 5)]) (by simp [results, Tryz.results99, go_sem]) rfl ⟨.inr ⟨rfl, hnp⟩, HCX.out.gr.bel.trans (HE4.out.mono HCX.out.gr.bel.size)⟩
                · go_wp2
                  refine bodyPost_ret (v := .tuple #[.slice none 0 0, .iface 49 (.int .i64 5)]) (by simp [results, Tryz.results99, go_sem]) rfl ⟨.inr ⟨rfl, hnp⟩, HCX.out.gr.bel.trans (HE3.out.mono HCX.out.gr.bel.size)⟩
            · have HMF := Lib.hid (show ∀ z, z ∈ hls hs ↔ SilS vars fx (es.drop (0)) (fun y => y = bl) z from fun z => by rw [HME.out, List.take_of_length_le (by rw [List.length_drop, ← HM2.out]; omega)])
              have HCV := Lib.hid (HCX.out.up HE.out)
              clear HCX z1 HME
              go_wp2_with fail
              go_loopw [11, 98] (fun v11 v98 wr => ∃ (k2 : Nat) (os' : List Hd) (OA' : Option Addr) (OC' : Nat), v11 = .slice OA' os'.length OC' ∧ v98 = .int .i64 k2 ∧ k2 ≤ hs.length ∧ os'.length ≤ os.length + k2 ∧ Hid (Gr0 w q os' (.slice OA' os'.length OC') wr) ∧ Hid (hls os').Nodup ∧ Hid (∀ z, z ∈ hls os' ↔ CsM vars es (fv, fx) (1) z ∨ z ∈ (hls hs).take k2) ∧ Hid (∀ z ∈ hls os', faB vars z = true) ∧ Hid (BxI wr (w.heap.size + 1) 68 #[.int .i64 fv, .int .i64 fx]) ∧ Hid (wr.ownsRow w.heap.size 65 3 (.slice EA m EC) m xs) ∧ Hid (Rls wr (fun b => (Value.slice OA' os'.length OC').ownBlock = some b ∨ q b) LA hs)) (fun _ v98 _ => hs.length - (intOf v98).toNat)
              case atStart => exact ⟨0, os, OA, OC, rfl, rfl, by omega, by omega, Lib.hid HCV.out.gr, Lib.hid HCV.out.nodup, Lib.hid (fun z => (HCV.out.mem z).trans (by simp)), Lib.hid HCV.out.fa, Lib.hid HCV.out.box, Lib.hid HCV.out.own, HL⟩
              case round =>
                clear HCV HL HE hvz
                obtain ⟨k2, os', OA', OC', rfl, rfl, hk2, hol2, HG, HND, HMM, HFF, HBX, HOE, HL⟩ := hrel
                obtain ⟨wy, rfl⟩ : ∃ wy : World, wy = wr := ⟨_, rfl⟩
                have hyz := HG.out.bel.size
                by_cases hlt3 : k2 < hs.length
                · obtain ⟨lb, lo, hLA, hlb, _, hlc⟩ := HL.out.at_ hlt3
                  have d1 := hlc k2 hlt3
                  have hfz := HL.out.fac hlt3
                  obtain ⟨z, hz⟩ : ∃ z, z = hd hs k2 := ⟨_, rfl⟩
                  rw [← hz] at d1 hfz
                  have HZ := Lib.hid hfz
                  have HZE := Lib.hid (show (hls hs).take (k2 + 1) = (hls hs).take k2 ++ [z.l] by rw [hz]; exact hls_take hlt3)
                  have HZF := Lib.hid (show faB vars z.l = true by rw [hz]; exact HFA.out _ (List.mem_map.2 ⟨_, hd_mem hlt3, rfl⟩))
                  have hzl : z.l.length ≤ 140737488355328 := hfz.1
                  subst hLA
                  clear hlc hfz hz
                  obtain ⟨W2, hW2⟩ : ∃ W2, W2 = wy.alloc (.cells #[.slice z.a z.l.length z.c] 23) := ⟨_, rfl⟩
                  have HB2 := Lib.hid (show Below wy.heap.size wy W2 by rw [hW2]; exact (Below.refl _ _).alloc (Nat.le_refl _) _)
                  have HX2 := Lib.hid (show BxI W2 wy.heap.size 23 #[.slice z.a z.l.length z.c] by rw [hW2]; exact BxI.new _ _ _)
                  have hz2 : W2.heap.size = wy.heap.size + 1 := by rw [hW2]; simp
                  have HRL := Lib.hid ((HG.out.up HB2.out).rls (by omega))
                  have KC := Lib.hid (cf_cas W2 OA' os'.length OC' (fun j => (hd os' j).v) (fun j => decide ((hd os' j).l = z.l)) (.pointer (some ⟨wy.heap.size, 0, none⟩)) (by omega)
                    (fun h0 => by
                      obtain ⟨b, off, e, hb, _, hc⟩ := HRL.out.2.1 h0
                      exact ⟨b, off, e, hb, hc⟩)
                    (fun W hW j hj => casClo_any (hd os' j).l z.l (hd os' j).a z.a (hd os' j).c z.c wy.heap.size W ((HRL.out.up hW).fac hj).at_ ((HZ.out.up HB2.out).up hW).at_ ((HX2.out.up hW).cell 0 _ rfl) (HX2.out.up hW).lt))
                  go_wp2_with fail
                  rw [← hW2]
                  have HW2 := Lib.hid hW2
                  clear hW2 d1
                  refine KC.out.mono ?_
                  rintro ee w3 ⟨rfl, hb3⟩
                  rw [anyB_hls]
                  have HB3 := Lib.hid (show Below wy.heap.size wy w3 from HB2.out.trans (hb3.mono HB2.out.size))
                  have w0 := (HX2.out.up hb3).cell 0 (.slice z.a z.l.length z.c) rfl
                  have hz3 := hb3.size
                  clear hb3 KC
                  by_cases hin : z.l ∈ hls os'
                  · have e0 : decide (z.l ∈ hls os') = true := decide_eq_true hin
                    rw [e0]
                    have HM5 := Lib.hid (show ∀ y, y ∈ hls os' ↔ CsM vars es (fv, fx) (1) y ∨ y ∈ (hls hs).take (k2 + 1) from fun y => by
                      rw [HZE.out, List.mem_append]
                      constructor
                      · intro h; rcases (HMM.out y).1 h with h | h
                        · exact .inl h
                        · exact .inr (.inl h)
                      · rintro (h | h | h)
                        · exact (HMM.out y).2 (.inl h)
                        · exact (HMM.out y).2 (.inr h)
                        · simp at h; rw [h]; exact hin)
                    clear e0 hin w0
                    go_wp2
                    go_roundw
                    case rel => exact ⟨k2 + 1, os', OA', OC', rfl, by go_num, by omega, by omega, Lib.hid (HG.out.up HB3.out), HND, HM5, HFF, Lib.hid (HBX.out.up HB3.out), Lib.hid (own_below HOE.out HB3.out), Lib.hid (HL.out.up HB3.out)⟩
                    case measure => simp [intOf]; omega
                  · have e0 : decide (z.l ∈ hls os') = false := decide_eq_false hin
                    rw [e0]
                    have HNI := Lib.hid hin
                    have HG3 := Lib.hid (HG.out.up HB3.out)
                    clear e0 hin
                    go_wp2_with (at_builtin; (refine wpList_append_src (by rfl) _ _ 77 (by rfl) w.heap.size 23 inf (.slice none 0 0) 1 24 nundL hinf iz0 iz1 iz2 rfl (by decide) (.slice OA' os'.length OC') os'.length (os'.map Hd.v) (by rfl) (by exact HG3.out.own.alloc _) (some ⟨w3.heap.size, 0, none⟩) 1 1 [.slice z.a z.l.length z.c] (by rfl) (src_of (heap_alloc_new w3 _) rfl (one_hdV z)) (by unfold maxLen; omega) (by omega) (by first | omega | (simp; done) | (simp; omega)) ?_); intro v6 w6 hown6 hgrow6 hat6; obtain ⟨A6, c6, rfl⟩ := own_shape hown6; have HO6 := Lib.hid hown6; have HG6 := Lib.hid hgrow6; have HA6 := Lib.hid hat6; clear hown6 hgrow6 hat6)
                    have HU3 := Lib.hid (show Below wy.heap.size wy (w3.alloc (.cells #[.slice z.a z.l.length z.c] 23)) from HB3.out.alloc (by omega) _)
                    have HGN := Lib.hid (Gr0.push (HG.out.up HU3.out) z (HZ.out.up HU3.out) HO6.out HG6.out HA6.out)
                    have hm6 := moves_grow (q := q) HG6.out HA6.out
                    have HLN := Lib.hid ((HL.out.up HU3.out).move hm6)
                    have Hlen : (os' ++ [z]).length = os'.length + 1 := by simp
                    clear hm6 w0
                    go_roundw
                    case rel => exact ⟨k2 + 1, os' ++ [z], A6, c6, by rw [Hlen], by go_num, by omega, by omega, Lib.hid (by rw [Hlen]; exact HGN.out), Lib.hid (by rw [hls_snoc]; exact nodup_snoc HND.out HNI.out), Lib.hid (fun y => (by
                      rw [hls_snoc, List.mem_append, HZE.out, List.mem_append, HMM.out, or_assoc])), Lib.hid (fun y hy => (by
                      rw [hls_snoc, List.mem_append] at hy
                      rcases hy with hy | hy
                      · exact HFF.out y hy
                      · simp at hy; rw [hy]; exact HZF.out)), Lib.hid ((HBX.out.up HU3.out).grown HG6.out (own_ne_bx (own_below HG.out.own HU3.out) (HBX.out.up HU3.out) (by decide))), Lib.hid ((own_below HOE.out HU3.out).kept HG6.out (own_own_ne (own_below HOE.out HU3.out) (own_below HG.out.own HU3.out) (by decide))), Lib.hid (by rw [Hlen]; exact HLN.out)⟩
                    case measure => simp [intOf]; omega
                · have HMN := Lib.hid (show ∀ z, z ∈ hls os' ↔ CsM vars es (fv, fx) (0) z from fun z => by rw [HMM.out, HST.out, List.take_of_length_le (by rw [hls_len]; omega), HMF.out])
                  go_wp2
                  go_roundw
                  case rel => exact ⟨0, _, os', OA', OC', rfl, rfl, by omega, by omega, by omega, Lib.hid ⟨HG.out, HND.out, HMN.out, HFF.out, HBX.out, HOE.out⟩⟩
                  case measure => simp [intOf] <;> omega
        · obtain rfl : pv = (r : Int) := by omega
          clear hpv
          have hrm : r < m := by omega
          have hre : r < es.length := by rw [← HM2.out]; omega
          obtain ⟨S1, c1, e1, e2, e3, e4⟩ := HEF2.out.2 r hre
          obtain ⟨g, rfl⟩ : ∃ g, EA = some ⟨g, 0, none⟩ := by
            rcases HC.out.own.2 with ⟨h0, h5⟩ | ⟨g, cap, cur, h5, _⟩
            · omega
            · injection h5 with h5; exact ⟨g, h5⟩
          have hce : m ≤ EC := by
            rcases HC.out.own.2 with ⟨h0, h5⟩ | ⟨g, cap, cur, h5, _, _, hnc, _⟩
            · omega
            · injection h5 with _ _ h5; omega
          have d1 := own_cell HC.out.own e1
          have d3 := own_cell HC.out.own e4
          have hgl := (HC.out.own.lt g rfl).2
          obtain ⟨ef, hef⟩ : ∃ ef, ef = eff es r := ⟨_, rfl⟩
          rw [← hef] at d1 d3 e2
          have HEE := Lib.hid hef
          have HFE := Lib.hid e2
          have hel2 : ef.whn.length ≤ 140737488355328 := e2.1
          clear e1 e2 e3 e4 hef
          go_wp2_with fail
          obtain ⟨W9, hW9⟩ : ∃ W9, W9 = (wu.alloc (.cells #[.int .i64 fv, .int .i64 fx] 68)).alloc (.cells #[.slice (some ⟨wu.heap.size, 0, none⟩) 1 1] 23) := ⟨_, rfl⟩
          rw [← hW9]
          have HB9 := Lib.hid (show Below wu.heap.size wu W9 by rw [hW9]; exact ((Below.refl _ _).alloc (Nat.le_refl _) _).alloc (by simp) _)
          have h9z := HB9.out.size
          have g1 := (HB9.out.cell (p := ⟨g, r * 3, none⟩) hgl).trans d1
          have g3 := (HB9.out.cell (p := ⟨g, r * 3 + 2, none⟩) hgl).trans d3
          have y9 := (HB9.out.cell (p := ⟨w.heap.size + 1, 1, none⟩) hFlt).trans y1
          have HW9 := Lib.hid hW9
          clear hW9 d1 d3 y0 y1
          by_cases hval : ef.val = fx
          · have HVL := Lib.hid hval
            have e9 : decide (ef.val ≠ fx) = false := by simp [hval]
            by_cases hEC : EC = r + 1
            · go_quiet (fail)
              go_wp2_with fail
              have hmr : m ≤ r + 1 := by omega
              obtain ⟨n2, hn2⟩ : ∃ n2, n2 = m - (r + 1) := ⟨_, rfl⟩
              rw [← hn2]
              have hn2a : n2 ≤ m - (r + 1) := by omega
              have hn2b : m - (r + 1) ≤ n2 := by omega
              clear hEC hval e9 hce g1 g3 y9 hrm hn2
              obtain ⟨wx, hwx⟩ : ∃ wx, wx = (W9.drewN nq).alloc (.cells #[.slice S1 ef.whn.length c1] 23) := ⟨_, rfl⟩
              rw [← hwx]
              have HU := Lib.hid (show Below wu.heap.size wu wx by rw [hwx]; exact HB9.out.trans ((below_dN (Below.refl _ _) _).alloc (by simpa using h9z) _))
              have HCX := Lib.hid (HC.out.up HU.out)
              obtain ⟨bl, hbl⟩ : ∃ bl : List Fct, bl = ef.whn := ⟨_, rfl⟩
              have HBL := Lib.hid hbl
              have HBF := Lib.hid (show faB vars bl = true by rw [hbl]; exact (HOK.out ef (by have h5 : ef ∈ effsOn o.effs fv := (by rw [← HES.out, HEE.out]; exact eff_mem hre); exact (mem_on.1 h5).1)).1)
              have HLS := Lib.hid (show Rls wx (fun b => (Value.slice OA os.length OC).ownBlock = some b ∨ q b) (some ⟨W9.heap.size, 0, none⟩) [(⟨S1, c1, bl⟩ : Hd)] from rls_one (by rw [hwx, hbl]; exact BxI.new (W9.drewN nq) 23 #[.slice S1 ef.whn.length c1]) (fun hb => by
                rcases hb with hb | hb
                · have := (HC.out.gr.own.lt _ hb).2; omega
                · exact HQ.out _ (by omega) hb) (by rw [hbl]; rw [hwx]; exact ((HFE.out.sub (bad' := fun b => (Value.slice OA os.length OC).ownBlock = some b ∨ q b) (fun b hb h => h.elim (fun h => absurd (HC.out.gr.own.lt b h).1 (by omega)) id)).up (HC.out.gr.bel.trans (HB9.out.mono hwz))).up ((below_dN (Below.refl _ _) _).alloc (by simp) _)))
              have HST := Lib.hid (show ∀ z, CsM vars es (fv, fx) (r + 1) z ↔ CsM vars es (fv, fx) (r + 2) z ∨ SilS vars fx (es.drop (r + 1)) (fun y => y = bl) z from fun z => by rw [hbl]; rw [HEE.out]; exact csM_yes hre (by rw [← HEE.out]; exact HVL.out))
              have hxz := HU.out.size
              clear hwx hbl HC
              go_loopw [13, 68] (fun v13 v68 wr => ∃ (j : Nat) (hs : List Hd) (LA : Option Addr) (LC : Nat), v13 = .slice LA hs.length LC ∧ v68 = .int .i64 j ∧ j ≤ m - (r + 1) ∧ hs.length ≤ 1024 ∧ Hid (Rls wr (fun b => (Value.slice OA os.length OC).ownBlock = some b ∨ q b) LA hs) ∧ Hid (∀ z, z ∈ hls hs ↔ SilS vars fx ((es.drop (r + 1)).take j) (fun y => y = bl) z) ∧ Hid (∀ z ∈ hls hs, faB vars z = true) ∧ Hid (Below wx.heap.size wx wr)) (fun _ v68 _ => m - (r + 1) - (intOf v68).toNat)
              case atStart => exact ⟨0, [(⟨S1, c1, bl⟩ : Hd)], some ⟨W9.heap.size, 0, none⟩, 1, rfl, rfl, by omega, by simp, HLS, Lib.hid (fun z => (by show z ∈ [bl] ↔ z = bl; simp)), Lib.hid (fun z hz => (by have hz' : z ∈ [bl] := hz; simp at hz'; rw [hz']; exact HBF.out)), Lib.hid (Below.refl _ _)⟩
              case round =>
                clear HLS
                obtain ⟨j, hs, LA, LC, rfl, rfl, hj, hhl, HL, HME, HFA, HE⟩ := hrel
                obtain ⟨wv, rfl⟩ : ∃ wv : World, wv = wr := ⟨_, rfl⟩
                have hvz := HE.out.size
                have z1 := (HCX.out.box.up HE.out).cell 1 (.int .i64 fx) rfl
                have hFlt2 := (HCX.out.box.up HE.out).lt
                by_cases hlt2 : j < n2
                · exact absurd hlt2 (by omega)
                · have HMF := Lib.hid (show ∀ z, z ∈ hls hs ↔ SilS vars fx (es.drop (r + 1)) (fun y => y = bl) z from fun z => by rw [HME.out, List.take_of_length_le (by rw [List.length_drop, ← HM2.out]; omega)])
                  have HCV := Lib.hid (HCX.out.up HE.out)
                  clear HCX z1 HME
                  go_wp2_with fail
                  go_loopw [11, 98] (fun v11 v98 wr => ∃ (k2 : Nat) (os' : List Hd) (OA' : Option Addr) (OC' : Nat), v11 = .slice OA' os'.length OC' ∧ v98 = .int .i64 k2 ∧ k2 ≤ hs.length ∧ os'.length ≤ os.length + k2 ∧ Hid (Gr0 w q os' (.slice OA' os'.length OC') wr) ∧ Hid (hls os').Nodup ∧ Hid (∀ z, z ∈ hls os' ↔ CsM vars es (fv, fx) (r + 2) z ∨ z ∈ (hls hs).take k2) ∧ Hid (∀ z ∈ hls os', faB vars z = true) ∧ Hid (BxI wr (w.heap.size + 1) 68 #[.int .i64 fv, .int .i64 fx]) ∧ Hid (wr.ownsRow w.heap.size 65 3 (.slice (some ⟨g, 0, none⟩) m EC) m xs) ∧ Hid (Rls wr (fun b => (Value.slice OA' os'.length OC').ownBlock = some b ∨ q b) LA hs)) (fun _ v98 _ => hs.length - (intOf v98).toNat)
                  case atStart => exact ⟨0, os, OA, OC, rfl, rfl, by omega, by omega, Lib.hid HCV.out.gr, Lib.hid HCV.out.nodup, Lib.hid (fun z => (HCV.out.mem z).trans (by simp)), Lib.hid HCV.out.fa, Lib.hid HCV.out.box, Lib.hid HCV.out.own, HL⟩
                  case round =>
                    clear HCV HL HE hvz
                    obtain ⟨k2, os', OA', OC', rfl, rfl, hk2, hol2, HG, HND, HMM, HFF, HBX, HOE, HL⟩ := hrel
                    obtain ⟨wy, rfl⟩ : ∃ wy : World, wy = wr := ⟨_, rfl⟩
                    have hyz := HG.out.bel.size
                    by_cases hlt3 : k2 < hs.length
                    · obtain ⟨lb, lo, hLA, hlb, _, hlc⟩ := HL.out.at_ hlt3
                      have d1 := hlc k2 hlt3
                      have hfz := HL.out.fac hlt3
                      obtain ⟨z, hz⟩ : ∃ z, z = hd hs k2 := ⟨_, rfl⟩
                      rw [← hz] at d1 hfz
                      have HZ := Lib.hid hfz
                      have HZE := Lib.hid (show (hls hs).take (k2 + 1) = (hls hs).take k2 ++ [z.l] by rw [hz]; exact hls_take hlt3)
                      have HZF := Lib.hid (show faB vars z.l = true by rw [hz]; exact HFA.out _ (List.mem_map.2 ⟨_, hd_mem hlt3, rfl⟩))
                      have hzl : z.l.length ≤ 140737488355328 := hfz.1
                      subst hLA
                      clear hlc hfz hz
                      obtain ⟨W2, hW2⟩ : ∃ W2, W2 = wy.alloc (.cells #[.slice z.a z.l.length z.c] 23) := ⟨_, rfl⟩
                      have HB2 := Lib.hid (show Below wy.heap.size wy W2 by rw [hW2]; exact (Below.refl _ _).alloc (Nat.le_refl _) _)
                      have HX2 := Lib.hid (show BxI W2 wy.heap.size 23 #[.slice z.a z.l.length z.c] by rw [hW2]; exact BxI.new _ _ _)
                      have hz2 : W2.heap.size = wy.heap.size + 1 := by rw [hW2]; simp
                      have HRL := Lib.hid ((HG.out.up HB2.out).rls (by omega))
                      have KC := Lib.hid (cf_cas W2 OA' os'.length OC' (fun j => (hd os' j).v) (fun j => decide ((hd os' j).l = z.l)) (.pointer (some ⟨wy.heap.size, 0, none⟩)) (by omega)
                        (fun h0 => by
                          obtain ⟨b, off, e, hb, _, hc⟩ := HRL.out.2.1 h0
                          exact ⟨b, off, e, hb, hc⟩)
                        (fun W hW j hj => casClo_any (hd os' j).l z.l (hd os' j).a z.a (hd os' j).c z.c wy.heap.size W ((HRL.out.up hW).fac hj).at_ ((HZ.out.up HB2.out).up hW).at_ ((HX2.out.up hW).cell 0 _ rfl) (HX2.out.up hW).lt))
                      go_wp2_with fail
                      rw [← hW2]
                      have HW2 := Lib.hid hW2
                      clear hW2 d1
                      refine KC.out.mono ?_
                      rintro ee w3 ⟨rfl, hb3⟩
                      rw [anyB_hls]
                      have HB3 := Lib.hid (show Below wy.heap.size wy w3 from HB2.out.trans (hb3.mono HB2.out.size))
                      have w0 := (HX2.out.up hb3).cell 0 (.slice z.a z.l.length z.c) rfl
                      have hz3 := hb3.size
                      clear hb3 KC
                      by_cases hin : z.l ∈ hls os'
                      · have e0 : decide (z.l ∈ hls os') = true := decide_eq_true hin
                        rw [e0]
                        have HM5 := Lib.hid (show ∀ y, y ∈ hls os' ↔ CsM vars es (fv, fx) (r + 2) y ∨ y ∈ (hls hs).take (k2 + 1) from fun y => by
                          rw [HZE.out, List.mem_append]
                          constructor
                          · intro h; rcases (HMM.out y).1 h with h | h
                            · exact .inl h
                            · exact .inr (.inl h)
                          · rintro (h | h | h)
                            · exact (HMM.out y).2 (.inl h)
                            · exact (HMM.out y).2 (.inr h)
                            · simp at h; rw [h]; exact hin)
                        clear e0 hin w0
                        go_wp2
                        go_roundw
                        case rel => exact ⟨k2 + 1, os', OA', OC', rfl, by go_num, by omega, by omega, Lib.hid (HG.out.up HB3.out), HND, HM5, HFF, Lib.hid (HBX.out.up HB3.out), Lib.hid (own_below HOE.out HB3.out), Lib.hid (HL.out.up HB3.out)⟩
                        case measure => simp [intOf]; omega
                      · have e0 : decide (z.l ∈ hls os') = false := decide_eq_false hin
                        rw [e0]
                        have HNI := Lib.hid hin
                        have HG3 := Lib.hid (HG.out.up HB3.out)
                        clear e0 hin
                        go_wp2_with (at_builtin; (refine wpList_append_src (by rfl) _ _ 77 (by rfl) w.heap.size 23 inf (.slice none 0 0) 1 24 nundL hinf iz0 iz1 iz2 rfl (by decide) (.slice OA' os'.length OC') os'.length (os'.map Hd.v) (by rfl) (by exact HG3.out.own.alloc _) (some ⟨w3.heap.size, 0, none⟩) 1 1 [.slice z.a z.l.length z.c] (by rfl) (src_of (heap_alloc_new w3 _) rfl (one_hdV z)) (by unfold maxLen; omega) (by omega) (by first | omega | (simp; done) | (simp; omega)) ?_); intro v6 w6 hown6 hgrow6 hat6; obtain ⟨A6, c6, rfl⟩ := own_shape hown6; have HO6 := Lib.hid hown6; have HG6 := Lib.hid hgrow6; have HA6 := Lib.hid hat6; clear hown6 hgrow6 hat6)
                        have HU3 := Lib.hid (show Below wy.heap.size wy (w3.alloc (.cells #[.slice z.a z.l.length z.c] 23)) from HB3.out.alloc (by omega) _)
                        have HGN := Lib.hid (Gr0.push (HG.out.up HU3.out) z (HZ.out.up HU3.out) HO6.out HG6.out HA6.out)
                        have hm6 := moves_grow (q := q) HG6.out HA6.out
                        have HLN := Lib.hid ((HL.out.up HU3.out).move hm6)
                        have Hlen : (os' ++ [z]).length = os'.length + 1 := by simp
                        clear hm6 w0
                        go_roundw
                        case rel => exact ⟨k2 + 1, os' ++ [z], A6, c6, by rw [Hlen], by go_num, by omega, by omega, Lib.hid (by rw [Hlen]; exact HGN.out), Lib.hid (by rw [hls_snoc]; exact nodup_snoc HND.out HNI.out), Lib.hid (fun y => (by
                          rw [hls_snoc, List.mem_append, HZE.out, List.mem_append, HMM.out, or_assoc])), Lib.hid (fun y hy => (by
                          rw [hls_snoc, List.mem_append] at hy
                          rcases hy with hy | hy
                          · exact HFF.out y hy
                          · simp at hy; rw [hy]; exact HZF.out)), Lib.hid ((HBX.out.up HU3.out).grown HG6.out (own_ne_bx (own_below HG.out.own HU3.out) (HBX.out.up HU3.out) (by decide))), Lib.hid ((own_below HOE.out HU3.out).kept HG6.out (own_own_ne (own_below HOE.out HU3.out) (own_below HG.out.own HU3.out) (by decide))), Lib.hid (by rw [Hlen]; exact HLN.out)⟩
                        case measure => simp [intOf]; omega
                    · have HMN := Lib.hid (show ∀ z, z ∈ hls os' ↔ CsM vars es (fv, fx) (r + 1) z from fun z => by rw [HMM.out, HST.out, List.take_of_length_le (by rw [hls_len]; omega), HMF.out])
                      go_wp2
                      go_roundw
                      case rel => exact ⟨r + 1, _, os', OA', OC', rfl, rfl, by omega, by omega, by omega, Lib.hid ⟨HG.out, HND.out, HMN.out, HFF.out, HBX.out, HOE.out⟩⟩
                      case measure => simp [intOf] <;> omega
            · go_quiet (fail)
              go_wp2_with fail
              obtain ⟨n2, hn2⟩ : ∃ n2, n2 = m - (r + 1) := ⟨_, rfl⟩
              rw [← hn2]
              have hn2a : n2 ≤ m - (r + 1) := by omega
              have hn2b : m - (r + 1) ≤ n2 := by omega
              clear hEC hval e9 hce g1 g3 y9 hrm hn2
              obtain ⟨wx, hwx⟩ : ∃ wx, wx = (W9.drewN nq).alloc (.cells #[.slice S1 ef.whn.length c1] 23) := ⟨_, rfl⟩
              rw [← hwx]
              have HU := Lib.hid (show Below wu.heap.size wu wx by rw [hwx]; exact HB9.out.trans ((below_dN (Below.refl _ _) _).alloc (by simpa using h9z) _))
              have HCX := Lib.hid (HC.out.up HU.out)
              obtain ⟨bl, hbl⟩ : ∃ bl : List Fct, bl = ef.whn := ⟨_, rfl⟩
              have HBL := Lib.hid hbl
              have HBF := Lib.hid (show faB vars bl = true by rw [hbl]; exact (HOK.out ef (by have h5 : ef ∈ effsOn o.effs fv := (by rw [← HES.out, HEE.out]; exact eff_mem hre); exact (mem_on.1 h5).1)).1)
              have HLS := Lib.hid (show Rls wx (fun b => (Value.slice OA os.length OC).ownBlock = some b ∨ q b) (some ⟨W9.heap.size, 0, none⟩) [(⟨S1, c1, bl⟩ : Hd)] from rls_one (by rw [hwx, hbl]; exact BxI.new (W9.drewN nq) 23 #[.slice S1 ef.whn.length c1]) (fun hb => by
                rcases hb with hb | hb
                · have := (HC.out.gr.own.lt _ hb).2; omega
                · exact HQ.out _ (by omega) hb) (by rw [hbl]; rw [hwx]; exact ((HFE.out.sub (bad' := fun b => (Value.slice OA os.length OC).ownBlock = some b ∨ q b) (fun b hb h => h.elim (fun h => absurd (HC.out.gr.own.lt b h).1 (by omega)) id)).up (HC.out.gr.bel.trans (HB9.out.mono hwz))).up ((below_dN (Below.refl _ _) _).alloc (by simp) _)))
              have HST := Lib.hid (show ∀ z, CsM vars es (fv, fx) (r + 1) z ↔ CsM vars es (fv, fx) (r + 2) z ∨ SilS vars fx (es.drop (r + 1)) (fun y => y = bl) z from fun z => by rw [hbl]; rw [HEE.out]; exact csM_yes hre (by rw [← HEE.out]; exact HVL.out))
              have hxz := HU.out.size
              clear hwx hbl HC
              go_loopw [13, 68] (fun v13 v68 wr => ∃ (j : Nat) (hs : List Hd) (LA : Option Addr) (LC : Nat), v13 = .slice LA hs.length LC ∧ v68 = .int .i64 j ∧ j ≤ m - (r + 1) ∧ hs.length ≤ 1024 ∧ Hid (Rls wr (fun b => (Value.slice OA os.length OC).ownBlock = some b ∨ q b) LA hs) ∧ Hid (∀ z, z ∈ hls hs ↔ SilS vars fx ((es.drop (r + 1)).take j) (fun y => y = bl) z) ∧ Hid (∀ z ∈ hls hs, faB vars z = true) ∧ Hid (Below wx.heap.size wx wr)) (fun _ v68 _ => m - (r + 1) - (intOf v68).toNat)
              case atStart => exact ⟨0, [(⟨S1, c1, bl⟩ : Hd)], some ⟨W9.heap.size, 0, none⟩, 1, rfl, rfl, by omega, by simp, HLS, Lib.hid (fun z => (by show z ∈ [bl] ↔ z = bl; simp)), Lib.hid (fun z hz => (by have hz' : z ∈ [bl] := hz; simp at hz'; rw [hz']; exact HBF.out)), Lib.hid (Below.refl _ _)⟩
              case round =>
                clear HLS
                obtain ⟨j, hs, LA, LC, rfl, rfl, hj, hhl, HL, HME, HFA, HE⟩ := hrel
                obtain ⟨wv, rfl⟩ : ∃ wv : World, wv = wr := ⟨_, rfl⟩
                have hvz := HE.out.size
                have z1 := (HCX.out.box.up HE.out).cell 1 (.int .i64 fx) rfl
                have hFlt2 := (HCX.out.box.up HE.out).lt
                by_cases hlt2 : j < n2
                · have haj : r + 1 + j < es.length := by rw [← HM2.out]; omega
                  obtain ⟨S', c', e1, e2, e3, e4⟩ := HEF2.out.2 (r + 1 + j) haj
                  skip
                  have hoe := own_below HCX.out.own HE.out
                  have d1 := own_cell hoe e1
                  have d2 := own_cell hoe e3
                  have d3 := own_cell hoe e4
                  have hgl := (hoe.lt g rfl).2
                  obtain ⟨e, he⟩ : ∃ e, e = eff es (r + 1 + j) := ⟨_, rfl⟩
                  rw [← he] at d1 d2 d3 e2
                  rw [show (r + 1 + j) * 3 = (r + 1) * 3 + j * 3 by omega] at d1 d2 d3
                  have hem : e ∈ o.effs := by
                    have h5 : e ∈ effsOn o.effs fv := by rw [← HES.out, he]; exact eff_mem haj
                    exact (mem_on.1 h5).1
                  have HWF := Lib.hid (HOK.out e hem).1
                  have HFC := Lib.hid e2
                  have hwl : e.whn.length ≤ 140737488355328 := e2.1
                  have HTK := Lib.hid (show (es.drop (r + 1)).take (j + 1) = (es.drop (r + 1)).take j ++ [e] by rw [take_effs (by rw [List.length_drop, ← HM2.out]; omega), drop_eff, ← he])
                  clear hoe e1 e2 e3 e4 he hem haj
                  by_cases hev : e.val = fx
                  · have HME2 := Lib.hid (show ∀ z, z ∈ hls hs ↔ SilS vars fx ((es.drop (r + 1)).take (j + 1)) (fun y => y = bl) z from fun z => by rw [HTK.out, silS_snoc, if_pos hev]; exact HME.out z)
                    go_wp2
                    go_roundw
                    case rel => exact ⟨j + 1, hs, LA, LC, rfl, by go_num, by omega, hhl, Lib.hid (HL.out.up ((Below.refl _ _).alloc (Nat.le_refl _) _)), HME2, HFA, Lib.hid (HE.out.alloc hvz _)⟩
                    case measure => simp [intOf]; omega
                  · have HEV := Lib.hid hev
                    obtain ⟨W2, hW2⟩ : ∃ W2, W2 = wv.alloc (.cells #[.slice S' e.whn.length c', .int .i64 e.var, .int .i64 e.val] 65) := ⟨_, rfl⟩
                    have HB2 := Lib.hid (show Below wv.heap.size wv W2 by rw [hW2]; exact (Below.refl _ _).alloc (Nat.le_refl _) _)
                    have HBw2 := Lib.hid (show Below w.heap.size w W2 from (HCX.out.gr.bel.trans (HE.out.mono HCX.out.gr.bel.size)).trans (HB2.out.mono (Nat.le_trans HCX.out.gr.bel.size hvz)))
                    have KS := Lib.hid (silent_any vars e av S' cv c' W2 (H1.out.up HBw2.out) (HFC.out.up (HBw2.out)).at_ HWF.out hv hdm)
                    go_wp2_with fail
                    rw [← hW2]
                    have HW2 := Lib.hid hW2
                    clear hW2 d1 d2 d3 z1
                    refine KS.out.mono ?_
                    rintro ee w3 ⟨hcs, hb3⟩
                    have HE3 := Lib.hid (show Below wx.heap.size wx w3 from (HE.out.trans (HB2.out.mono hvz)).trans (hb3.mono (Nat.le_trans hvz HB2.out.size)))
                    have HL3 := Lib.hid ((HL.out.up HB2.out).up hb3)
                    have hz3 := hb3.size
                    have hz2 := HB2.out.size
                    clear hb3 KS
                    rcases hcs with ⟨A3, c3, os3, rfl, horl, _, hme3, hfa3, hl3⟩ | ⟨rfl, hnp⟩
                    · have HRQ := Lib.hid (show Rls w3 (fun _ => False) A3 os3 from Orl.rls ⟨horl.own, fun x hx => (horl.fac x hx).sub (fun _ _ h => h.elim)⟩ (by omega) (fun _ _ _ h => h))
                      have HM3 := Lib.hid hme3
                      have KJ := Lib.hid (rjoin_any vars hs os3 LA A3 LC c3 w3 (HL3.out.sub (fun _ _ h => h.elim)) HRQ.out (fun h hh => HFA.out _ (List.mem_map.2 ⟨h, hh, rfl⟩)) (fun h hh => hfa3 _ (List.mem_map.2 ⟨h, hh, rfl⟩)) (by omega))
                      clear horl hme3 hfa3
                      go_wp2_with fail
                      refine KJ.out.mono ?_
                      rintro ee w4 ⟨hcs, hb4⟩
                      have HE4 := Lib.hid (show Below wx.heap.size wx w4 from HE3.out.trans (hb4.mono (by omega)))
                      clear hb4 KJ
                      rcases hcs with ⟨A4, c4, os4, rfl, horl, _, hme4, hfa4, hl4⟩ | ⟨rfl, hnp⟩
                      · have HR4 := Lib.hid (show Rls w4 (fun b => (Value.slice OA os.length OC).ownBlock = some b ∨ q b) A4 os4 from Orl.rls ⟨horl.own, fun x hx => (horl.fac x hx).sub (fun b hb h => by
                            left
                            rcases h with h | h
                            · have := (HCX.out.gr.own.lt b h).2; omega
                            · rcases Nat.lt_or_ge b w3.heap.size with h5 | h5
                              · exact h5
                              · exact absurd h (HQ.out b (by have := HCX.out.gr.bel.size; omega)))⟩ (by omega) (fun b off e h => by
                            subst e
                            have h6 := (horl.own.lt b rfl).1
                            rcases h with h | h
                            · have := (HCX.out.gr.own.lt b h).2; omega
                            · exact HQ.out b (by have := HCX.out.gr.bel.size; omega) h))
                        have HM4 := Lib.hid (show ∀ z, z ∈ hls os4 ↔ SilS vars fx ((es.drop (r + 1)).take (j + 1)) (fun y => y = bl) z from fun z => by
                          rw [HTK.out, silS_snoc, if_neg HEV.out, hme4]
                          constructor
                          · rintro ⟨x, hx, y, hy, h⟩; exact ⟨x, y, (HME.out x).1 hx, (HM3.out y).1 hy, h⟩
                          · rintro ⟨x, y, hx, hy, h⟩; exact ⟨x, (HME.out x).2 hx, y, (HM3.out y).2 hy, h⟩)
                        have HF4 := Lib.hid hfa4
                        clear horl hme4 hfa4
                        go_wp2
                        go_roundw
                        case rel => exact ⟨j + 1, os4, A4, c4, rfl, by go_num, by omega, hl4, HR4, HM4, HF4, HE4⟩
                        case measure => simp [intOf]; omega
                      · go_wp2
                        refine bodyPost_ret (v := .tuple #[.slice none 0 0, .iface 49 (.int .i64 5)]) (by simp [results, Tryz.results99, go_sem]) rfl ⟨.inr ⟨rfl, hnp⟩, HCX.out.gr.bel.trans (HE4.out.mono HCX.out.gr.bel.size)⟩
                    · go_wp2
                      refine bodyPost_ret (v := .tuple #[.slice none 0 0, .iface 49 (.int .i64 5)]) (by simp [results, Tryz.results99, go_sem]) rfl ⟨.inr ⟨rfl, hnp⟩, HCX.out.gr.bel.trans (HE3.out.mono HCX.out.gr.bel.size)⟩
                · have HMF := Lib.hid (show ∀ z, z ∈ hls hs ↔ SilS vars fx (es.drop (r + 1)) (fun y => y = bl) z from fun z => by rw [HME.out, List.take_of_length_le (by rw [List.length_drop, ← HM2.out]; omega)])
                  have HCV := Lib.hid (HCX.out.up HE.out)
                  clear HCX z1 HME
                  go_wp2_with fail
                  go_loopw [11, 98] (fun v11 v98 wr => ∃ (k2 : Nat) (os' : List Hd) (OA' : Option Addr) (OC' : Nat), v11 = .slice OA' os'.length OC' ∧ v98 = .int .i64 k2 ∧ k2 ≤ hs.length ∧ os'.length ≤ os.length + k2 ∧ Hid (Gr0 w q os' (.slice OA' os'.length OC') wr) ∧ Hid (hls os').Nodup ∧ Hid (∀ z, z ∈ hls os' ↔ CsM vars es (fv, fx) (r + 2) z ∨ z ∈ (hls hs).take k2) ∧ Hid (∀ z ∈ hls os', faB vars z = true) ∧ Hid (BxI wr (w.heap.size + 1) 68 #[.int .i64 fv, .int .i64 fx]) ∧ Hid (wr.ownsRow w.heap.size 65 3 (.slice (some ⟨g, 0, none⟩) m EC) m xs) ∧ Hid (Rls wr (fun b => (Value.slice OA' os'.length OC').ownBlock = some b ∨ q b) LA hs)) (fun _ v98 _ => hs.length - (intOf v98).toNat)
                  case atStart => exact ⟨0, os, OA, OC, rfl, rfl, by omega, by omega, Lib.hid HCV.out.gr, Lib.hid HCV.out.nodup, Lib.hid (fun z => (HCV.out.mem z).trans (by simp)), Lib.hid HCV.out.fa, Lib.hid HCV.out.box, Lib.hid HCV.out.own, HL⟩
                  case round =>
                    clear HCV HL HE hvz
                    obtain ⟨k2, os', OA', OC', rfl, rfl, hk2, hol2, HG, HND, HMM, HFF, HBX, HOE, HL⟩ := hrel
                    obtain ⟨wy, rfl⟩ : ∃ wy : World, wy = wr := ⟨_, rfl⟩
                    have hyz := HG.out.bel.size
                    by_cases hlt3 : k2 < hs.length
                    · obtain ⟨lb, lo, hLA, hlb, _, hlc⟩ := HL.out.at_ hlt3
                      have d1 := hlc k2 hlt3
                      have hfz := HL.out.fac hlt3
                      obtain ⟨z, hz⟩ : ∃ z, z = hd hs k2 := ⟨_, rfl⟩
                      rw [← hz] at d1 hfz
                      have HZ := Lib.hid hfz
                      have HZE := Lib.hid (show (hls hs).take (k2 + 1) = (hls hs).take k2 ++ [z.l] by rw [hz]; exact hls_take hlt3)
                      have HZF := Lib.hid (show faB vars z.l = true by rw [hz]; exact HFA.out _ (List.mem_map.2 ⟨_, hd_mem hlt3, rfl⟩))
                      have hzl : z.l.length ≤ 140737488355328 := hfz.1
                      subst hLA
                      clear hlc hfz hz
                      obtain ⟨W2, hW2⟩ : ∃ W2, W2 = wy.alloc (.cells #[.slice z.a z.l.length z.c] 23) := ⟨_, rfl⟩
                      have HB2 := Lib.hid (show Below wy.heap.size wy W2 by rw [hW2]; exact (Below.refl _ _).alloc (Nat.le_refl _) _)
                      have HX2 := Lib.hid (show BxI W2 wy.heap.size 23 #[.slice z.a z.l.length z.c] by rw [hW2]; exact BxI.new _ _ _)
                      have hz2 : W2.heap.size = wy.heap.size + 1 := by rw [hW2]; simp
                      have HRL := Lib.hid ((HG.out.up HB2.out).rls (by omega))
                      have KC := Lib.hid (cf_cas W2 OA' os'.length OC' (fun j => (hd os' j).v) (fun j => decide ((hd os' j).l = z.l)) (.pointer (some ⟨wy.heap.size, 0, none⟩)) (by omega)
                        (fun h0 => by
                          obtain ⟨b, off, e, hb, _, hc⟩ := HRL.out.2.1 h0
                          exact ⟨b, off, e, hb, hc⟩)
                        (fun W hW j hj => casClo_any (hd os' j).l z.l (hd os' j).a z.a (hd os' j).c z.c wy.heap.size W ((HRL.out.up hW).fac hj).at_ ((HZ.out.up HB2.out).up hW).at_ ((HX2.out.up hW).cell 0 _ rfl) (HX2.out.up hW).lt))
                      go_wp2_with fail
                      rw [← hW2]
                      have HW2 := Lib.hid hW2
                      clear hW2 d1
                      refine KC.out.mono ?_
                      rintro ee w3 ⟨rfl, hb3⟩
                      rw [anyB_hls]
                      have HB3 := Lib.hid (show Below wy.heap.size wy w3 from HB2.out.trans (hb3.mono HB2.out.size))
                      have w0 := (HX2.out.up hb3).cell 0 (.slice z.a z.l.length z.c) rfl
                      have hz3 := hb3.size
                      clear hb3 KC
                      by_cases hin : z.l ∈ hls os'
                      · have e0 : decide (z.l ∈ hls os') = true := decide_eq_true hin
                        rw [e0]
                        have HM5 := Lib.hid (show ∀ y, y ∈ hls os' ↔ CsM vars es (fv, fx) (r + 2) y ∨ y ∈ (hls hs).take (k2 + 1) from fun y => by
                          rw [HZE.out, List.mem_append]
                          constructor
                          · intro h; rcases (HMM.out y).1 h with h | h
                            · exact .inl h
                            · exact .inr (.inl h)
                          · rintro (h | h | h)
                            · exact (HMM.out y).2 (.inl h)
                            · exact (HMM.out y).2 (.inr h)
                            · simp at h; rw [h]; exact hin)
                        clear e0 hin w0
                        go_wp2
                        go_roundw
                        case rel => exact ⟨k2 + 1, os', OA', OC', rfl, by go_num, by omega, by omega, Lib.hid (HG.out.up HB3.out), HND, HM5, HFF, Lib.hid (HBX.out.up HB3.out), Lib.hid (own_below HOE.out HB3.out), Lib.hid (HL.out.up HB3.out)⟩
                        case measure => simp [intOf]; omega
                      · have e0 : decide (z.l ∈ hls os') = false := decide_eq_false hin
                        rw [e0]
                        have HNI := Lib.hid hin
                        have HG3 := Lib.hid (HG.out.up HB3.out)
                        clear e0 hin
                        go_wp2_with (at_builtin; (refine wpList_append_src (by rfl) _ _ 77 (by rfl) w.heap.size 23 inf (.slice none 0 0) 1 24 nundL hinf iz0 iz1 iz2 rfl (by decide) (.slice OA' os'.length OC') os'.length (os'.map Hd.v) (by rfl) (by exact HG3.out.own.alloc _) (some ⟨w3.heap.size, 0, none⟩) 1 1 [.slice z.a z.l.length z.c] (by rfl) (src_of (heap_alloc_new w3 _) rfl (one_hdV z)) (by unfold maxLen; omega) (by omega) (by first | omega | (simp; done) | (simp; omega)) ?_); intro v6 w6 hown6 hgrow6 hat6; obtain ⟨A6, c6, rfl⟩ := own_shape hown6; have HO6 := Lib.hid hown6; have HG6 := Lib.hid hgrow6; have HA6 := Lib.hid hat6; clear hown6 hgrow6 hat6)
                        have HU3 := Lib.hid (show Below wy.heap.size wy (w3.alloc (.cells #[.slice z.a z.l.length z.c] 23)) from HB3.out.alloc (by omega) _)
                        have HGN := Lib.hid (Gr0.push (HG.out.up HU3.out) z (HZ.out.up HU3.out) HO6.out HG6.out HA6.out)
                        have hm6 := moves_grow (q := q) HG6.out HA6.out
                        have HLN := Lib.hid ((HL.out.up HU3.out).move hm6)
                        have Hlen : (os' ++ [z]).length = os'.length + 1 := by simp
                        clear hm6 w0
                        go_roundw
                        case rel => exact ⟨k2 + 1, os' ++ [z], A6, c6, by rw [Hlen], by go_num, by omega, by omega, Lib.hid (by rw [Hlen]; exact HGN.out), Lib.hid (by rw [hls_snoc]; exact nodup_snoc HND.out HNI.out), Lib.hid (fun y => (by
                          rw [hls_snoc, List.mem_append, HZE.out, List.mem_append, HMM.out, or_assoc])), Lib.hid (fun y hy => (by
                          rw [hls_snoc, List.mem_append] at hy
                          rcases hy with hy | hy
                          · exact HFF.out y hy
                          · simp at hy; rw [hy]; exact HZF.out)), Lib.hid ((HBX.out.up HU3.out).grown HG6.out (own_ne_bx (own_below HG.out.own HU3.out) (HBX.out.up HU3.out) (by decide))), Lib.hid ((own_below HOE.out HU3.out).kept HG6.out (own_own_ne (own_below HOE.out HU3.out) (own_below HG.out.own HU3.out) (by decide))), Lib.hid (by rw [Hlen]; exact HLN.out)⟩
                        case measure => simp [intOf]; omega
                    · have HMN := Lib.hid (show ∀ z, z ∈ hls os' ↔ CsM vars es (fv, fx) (r + 1) z from fun z => by rw [HMM.out, HST.out, List.take_of_length_le (by rw [hls_len]; omega), HMF.out])
                      go_wp2
                      go_roundw
                      case rel => exact ⟨r + 1, _, os', OA', OC', rfl, rfl, by omega, by omega, by omega, Lib.hid ⟨HG.out, HND.out, HMN.out, HFF.out, HBX.out, HOE.out⟩⟩
                      case measure => simp [intOf] <;> omega
          · have e9 : (ef.val != fx) = true := by simpa using hval
            go_quiet (fail)
            go_wp2_with fail
            go_roundw
            case rel => exact ⟨r + 1, _, os, OA, OC, rfl, rfl, by omega, by omega, by omega, Lib.hid { HC.out.up (HB9.out.trans (below_dN (Below.refl _ _) _)) with mem := fun z => (HC.out.mem z).trans (csM_skip (by rw [← HEE.out]; exact hval)) }⟩
            case measure => simp [intOf]; omega
end Go.Proofs.YtlkebhiaimijiaaGreatDoor
