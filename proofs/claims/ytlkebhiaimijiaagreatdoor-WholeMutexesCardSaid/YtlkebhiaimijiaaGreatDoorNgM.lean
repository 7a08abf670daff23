/- Texts laid together: VbX, VbY. -/
import Derived.Test.YtlkebhiaimijiaaGreatDoorNgL
namespace Go.Proofs.YtlkebhiaimijiaaGreatDoor
set_option linter.unusedSimpArgs false
set_option linter.unusedVariables false
section
open Go Go.RowKit
set_option linter.unusedVariables false

/-- It contains no shorter one. -/
def minB (L : List (List Fct)) (z : List Fct) : Bool := L.all fun y => !(cnB z y && decide (y.length < z.length))
theorem minB_iff {vars : List Int} {L : List (List Fct)} {z : List Fct} (hL : ∀ y ∈ L, faB vars y = true) (hz : faB vars z = true) : minB L z = true ↔ ∀ y ∈ L, Sub y z → ¬ y.length < z.length := by
 unfold minB
 rw [List.all_eq_true]
 constructor
 ·intro h y hy hs hlt
  have := h y hy
  rw [(cn_iff (fa_asc hz) (fa_pos (hL y hy))).2 hs, decide_eq_true hlt] at this
  cases this
 ·intro h y hy
  cases e : cnB z y
  ·rfl
  ·have := h y hy ((cn_iff (fa_asc hz) (fa_pos (hL y hy))).1 e)
   rw [decide_eq_false this]; rfl
theorem take_hls {hs : List Hd} {i : Nat} (h : i < hs.length) : (hls hs).take (i + 1) = (hls hs).take i ++ [(hd hs i).l] := hls_take h
theorem hls_get {hs : List Hd} {i : Nat} (h : i < hs.length) : (hls hs)[i]'(by rw [hls_len]; exact h) = (hd hs i).l := by
 have := hls_hd h
 rw [List.getD_eq_getElem?_getD, List.getElem?_eq_getElem (by rw [hls_len]; exact h)] at this
 exact this
theorem hls_inj {hs : List Hd} (hn : (hls hs).Nodup) {i j : Nat} (hi : i < hs.length) (hj : j < hs.length) (e : (hd hs i).l = (hd hs j).l) : i = j := by
 rw [← hls_get hi, ← hls_get hj] at e
 have hp := List.pairwise_iff_getElem.1 hn
 rcases Nat.lt_trichotomy i j with h | h | h
 ·exact absurd e (hp i j _ _ h)
 ·exact h
 ·exact absurd e.symm (hp j i _ _ h)

set_option maxRecDepth 20000 in
set_option maxHeartbeats 32000000 in
theorem minimal_any (vars : List Int) (hs : List Hd) (A : Option Addr) (c : Nat) (w : World) (h : Rls w (fun _ => False) A hs) (hf : ∀ z ∈ hls hs, faB vars z = true) (hn : (hls hs).Nodup) (hl : hs.length ≤ 1024) (hv : vars.length ≤ 1000) :
  Calls Tryz.prog 72 #[.slice A hs.length c] w fun e w' => (∃ (A' : Option Addr) (c' : Nat) (os : List Hd), e = .returned (.slice A' os.length c') ∧ Gr1 w os (.slice A' os.length c') w' ∧ hls os = (hls hs).filter (minB (hls hs))) ∧ Below w.heap.size w w' := by
 obtain ⟨inf, hinf, iz0, iz1, iz2⟩ := info_parts ninfL
 have H := Lib.hid h
 have HF := Lib.hid hf
 have HN := Lib.hid hn
 clear h hf hn
 go_enter Tryz.func72, Tryz.ntmps72
 go_wp2_with fail
 go_loopw [3, 11] (fun v3 v11 wr => ∃ (i : Nat) (os : List Hd) (OA : Option Addr) (OC : Nat), v3 = .slice OA os.length OC ∧ v11 = .int .i64 i ∧ i ≤ hs.length ∧ os.length ≤ i ∧ Hid (Gr1 w os (.slice OA os.length OC) wr) ∧ Hid (hls os = ((hls hs).take i).filter (minB (hls hs)))) (fun _ v11 _ => hs.length - (intOf v11).toNat)
 case atStart => exact ⟨0, [], none, 0, rfl, rfl, by omega, by simp, Lib.hid (Gr1.nil (Below.refl _ _)), Lib.hid (by simp [hls])⟩
 case round =>
  obtain ⟨i, os, OA, OC, rfl, rfl, hi, hoi, HG, HO⟩ := hrel
  obtain ⟨wt, rfl⟩ : ∃ wt : World, wt = wr := ⟨_, rfl⟩
  have hzt := HG.out.bel.size
  by_cases hlt : i < hs.length
  ·obtain ⟨b1, o1, hA1, hb1, _, hc1⟩ := (H.out.up HG.out.bel).at_ hlt
   have d1 := hc1 i hlt
   have hfx := (H.out.up HG.out.bel).fac hlt
   obtain ⟨x, hx⟩ : ∃ x, x = hd hs i := ⟨_, rfl⟩
   rw [← hx] at d1 hfx
   have hxf : faB vars x.l = true := by rw [hx]; exact HF.out _ (List.mem_map.2 ⟨_, hd_mem hlt, rfl⟩)
   have HX := Lib.hid hx
   have HXF := Lib.hid hxf
   have HFX := Lib.hid hfx
   have hxl : x.l.length ≤ 1000 := by have := fa_len hxf; omega
   have KV := Lib.hid (valid_any x.l x.a x.c wt hfx.at_)
   rw [fa_va hxf] at KV
   have HTK := Lib.hid (show (hls hs).take (i + 1) = (hls hs).take i ++ [x.l] by rw [hx]; exact take_hls hlt)
   rw [hA1]
   clear hc1 hx hfx hxf
   go_wp2_with fail
   refine KV.out.mono ?_
   rintro e w2 ⟨rfl, hb2⟩
   have HB2 := Lib.hid hb2
   have hz2 := hb2.size
   clear hb2 KV d1
   go_wp2_with fail
   go_loopw [6, 21] (fun v6 v21 wr => ∃ (j : Nat), v6 = .bool true ∧ v21 = .int .i64 j ∧ j ≤ hs.length ∧ Hid (∀ m, m < j → ¬ (cnB x.l (hd hs m).l = true ∧ (hd hs m).l.length < x.l.length)) ∧ Hid (Below wt.heap.size wt wr)) (fun _ v21 _ => hs.length - (intOf v21).toNat)
   case atStart => exact ⟨0, rfl, rfl, by omega, Lib.hid (fun m hm => absurd hm (by omega)), HB2⟩
   case round =>
    clear HB2 hz2
    obtain ⟨j, rfl, rfl, hj, HJ, HE⟩ := hrel
    obtain ⟨wu, rfl⟩ : ∃ wu : World, wu = wr := ⟨_, rfl⟩
    have hzu := HE.out.size
    have HBu := Lib.hid (show Below w.heap.size w wu from HG.out.bel.trans (HE.out.mono hzt))
    have HGu := Lib.hid (HG.out.up HE.out)
    by_cases hlt2 : j < hs.length
    ·obtain ⟨b2, o2, hA2, hb2, _, hc2⟩ := (H.out.up HBu.out).at_ hlt2
     have d2 := hc2 j hlt2
     have hfy := (H.out.up HBu.out).fac hlt2
     obtain ⟨rfl, rfl⟩ : b1 = b2 ∧ o1 = o2 := by
      rw [hA1] at hA2
      injection hA2 with hA2
      injection hA2 with a1 a2 _
      exact ⟨a1, a2⟩
     obtain ⟨y, hy⟩ : ∃ y, y = hd hs j := ⟨_, rfl⟩
     rw [← hy] at d2 hfy
     have hyf : faB vars y.l = true := by rw [hy]; exact HF.out _ (List.mem_map.2 ⟨_, hd_mem hlt2, rfl⟩)
     have hyl : y.l.length ≤ 1000 := by have := fa_len hyf; omega
     have HY := Lib.hid hy
     have HYF := Lib.hid hyf
     have KV := Lib.hid (valid_any y.l y.a y.c wu hfy.at_)
     rw [fa_va hyf] at KV
     have KK := Lib.hid (fun W (k : Below wu.heap.size wu W) => contains_any x.l y.l x.a y.a x.c y.c W ((HFX.out.up HE.out).up k).at_ (hfy.up k).at_)
     clear hc2 hy hfy hyf hA2
     by_cases hij : i = j
     ·have e0 : ((i : Int) != (j : Int)) = false := by rw [hij]; simp
      have HJ2 := Lib.hid (show ∀ m, m < j + 1 → ¬ (cnB x.l (hd hs m).l = true ∧ (hd hs m).l.length < x.l.length) from fun m hm => by
       rcases Nat.lt_succ_iff_lt_or_eq.1 hm with h1 | rfl
       ·exact HJ.out m h1
       ·rw [← hij, ← HX.out]; omega)
      have HIJ := Lib.hid hij
      clear hij
      go_wp2
      go_roundw
      case rel => exact ⟨j + 1, rfl, by go_num, by omega, HJ2, HE⟩
      case measure => simp [intOf]; omega
     ·have e0 : ((i : Int) != (j : Int)) = true := by rw [bne_iff_ne]; omega
      have HIJ := Lib.hid hij
      clear hij
      go_wp2_with fail
      refine KV.out.mono ?_
      rintro e w3 ⟨rfl, hb3⟩
      have HB3 := Lib.hid hb3
      have hz3 := hb3.size
      clear hb3 KV
      go_wp2_with fail
      refine (KK.out w3 HB3.out).mono ?_
      rintro e w4 ⟨rfl, hb4⟩
      have HE4 := Lib.hid (show Below wt.heap.size wt w4 from (HE.out.trans (HB3.out.mono hzu)).trans (hb4.mono (by omega)))
      clear hb4 KK d2
      cases e1 : cnB x.l y.l
      ·have HJ2 := Lib.hid (show ∀ m, m < j + 1 → ¬ (cnB x.l (hd hs m).l = true ∧ (hd hs m).l.length < x.l.length) from fun m hm => by
        rcases Nat.lt_succ_iff_lt_or_eq.1 hm with h1 | rfl
        ·exact HJ.out m h1
        ·rw [← HY.out, e1]; intro h; cases h.1)
       clear e1
       go_wp2
       go_roundw
       case rel => exact ⟨j + 1, rfl, by go_num, by omega, HJ2, HE4⟩
       case measure => simp [intOf]; omega
      ·have hlen : y.l.length < x.l.length := by
        refine Classical.byContradiction fun hge => HIJ.out ?_
        have hs' := (cn_iff (fa_asc HXF.out) (fa_pos HYF.out)).1 e1
        have := sub_eq (fa_asc HYF.out) (fa_asc HXF.out) hs' (by omega)
        exact hls_inj HN.out hlt hlt2 (by rw [← HX.out, ← HY.out]; exact this.symm)
       have HMB := Lib.hid (show minB (hls hs) x.l = false by
        rw [Bool.eq_false_iff]
        intro hh
        unfold minB at hh
        rw [List.all_eq_true] at hh
        have := hh y.l (by rw [HY.out]; exact List.mem_map.2 ⟨_, hd_mem hlt2, rfl⟩)
        rw [e1, decide_eq_true hlen] at this
        cases this)
       have e2 : decide ((y.l.length : Int) < x.l.length) = true := decide_eq_true (by omega)
       have HO2 := Lib.hid (show hls os = ((hls hs).take (i + 1)).filter (minB (hls hs)) by rw [HTK.out, List.filter_append, HO.out]; simp [HMB.out])
       have HG4 := Lib.hid (HG.out.up HE4.out)
       clear e1
       go_wp2
       go_roundw
       case rel => exact ⟨i + 1, os, OA, OC, rfl, by go_num, by omega, by omega, HG4, HO2⟩
       case measure => simp [intOf]; omega
    ·have HMB := Lib.hid (show minB (hls hs) x.l = true by
      unfold minB
      rw [List.all_eq_true]
      intro y hy
      obtain ⟨m, hm, rfl⟩ := mem_hls.1 hy
      have := HJ.out m (by omega)
      cases e1 : cnB x.l (hd hs m).l
      ·rfl
      ·rw [e1] at this
       rw [decide_eq_false (fun hh => this ⟨rfl, hh⟩)]; rfl)
     have HO2 := Lib.hid (show hls (os ++ [(⟨none, 0, x.l⟩ : Hd)]) = ((hls hs).take (i + 1)).filter (minB (hls hs)) by rw [hls_snoc, HTK.out, List.filter_append, HO.out]; simp [HMB.out])
     have KL := Lib.hid (cloneFac_any x.l x.a x.c wu ((HFX.out.up HE.out).at_) (by omega))
     go_wp2_with fail
     refine KL.out.mono ?_
     rintro e w7 ⟨⟨A7, c7, rfl, hown7⟩, hb7⟩
     have HG7 := Lib.hid (HGu.out.up hb7)
     have HF7 := Lib.hid (show Fac w7 (fun b => b < wu.heap.size) A7 x.l by
      obtain ⟨A', c', e, h⟩ := own_facV hown7 (by omega) (bad := fun b => b < wu.heap.size) (fun g hg hb => by have := (hown7.lt g hg).1; omega)
      injection e with e1 _ _
      rw [e1]; exact h)
     have hz7 := hb7.size
     clear hb7 hown7 KL
     go_wp2_with (at_builtin; refine wpList_append_src (by rfl) _ _ 77 (by rfl) w.heap.size 23 inf (.slice none 0 0) 1 24 nundL hinf iz0 iz1 iz2 rfl (by decide) (.slice OA os.length OC) os.length (os.map Hd.v) (by rfl) (by exact HG7.out.own.alloc _) (some ⟨w7.heap.size, 0, none⟩) 1 1 [.slice A7 x.l.length c7] (by rfl) (src_of (heap_alloc_new w7 _) rfl (by intro u hu; simp at hu; subst hu; rfl)) (by unfold maxLen; omega) (by omega) (by first | omega | (simp; done) | (simp; omega)) ?_; intro v8 w8 hown8 hgrow8 hat8; obtain ⟨A8, c8, rfl⟩ := own_shape hown8; have HO8 := Lib.hid hown8; have HG8 := Lib.hid hgrow8; have HA8 := Lib.hid hat8; clear hown8 hgrow8 hat8)
     have HU7 := Lib.hid (show Below w7.heap.size w7 (w7.alloc (.cells #[.slice A7 x.l.length c7] 23)) from (Below.refl _ _).alloc (Nat.le_refl _) _)
     have HGN := Lib.hid ((HG7.out.up HU7.out).push ⟨A7, c7, x.l⟩ ((HGu.out.bad HF7.out).up HU7.out) HO8.out HG8.out HA8.out)
     have Hlen : (os ++ [(⟨A7, c7, x.l⟩ : Hd)]).length = os.length + 1 := by simp
     have HO3 := Lib.hid (show hls (os ++ [(⟨A7, c7, x.l⟩ : Hd)]) = ((hls hs).take (i + 1)).filter (minB (hls hs)) by rw [← HO2.out, hls_snoc, hls_snoc])
     go_roundw
     case rel => exact ⟨i + 1, os ++ [(⟨A7, c7, x.l⟩ : Hd)], A8, c8, by rw [Hlen], by go_num, by omega, by omega, Lib.hid (by rw [Hlen]; exact HGN.out), HO3⟩
     case measure => simp [intOf]; omega
  ·obtain rfl : i = hs.length := by omega
   have HF2 := Lib.hid (show hls os = (hls hs).filter (minB (hls hs)) by rw [HO.out]; congr 1; exact List.take_of_length_le (by rw [hls_len]; exact Nat.le_refl _))
   go_wp2
   refine bodyPost_ret (v := .slice OA os.length OC) (by simp [results, Tryz.results72, go_sem]) rfl ⟨⟨OA, OC, os, rfl, HG.out, HF2.out⟩, HG.out.bel⟩
end

section
open Go Go.RowKit
set_option linter.unusedVariables false

theorem own_frz {w : World} {B n c k g : Nat} {e : TypeId} {xs : List Value} (h : w.ownsRow B e k (.slice (some ⟨g, 0, none⟩) n c) n xs) (i : Nat) : w.frozen? ⟨g, i, none⟩ = false := by
 obtain ⟨R, hb, _⟩ := own_box h
 exact hb.fz i
theorem own_cap {w : World} {B n c k : Nat} {A : Option Addr} {e : TypeId} {xs : List Value} (h : w.ownsRow B e k (.slice A n c) n xs) : n ≤ c := by
 rcases h.2 with ⟨h1, h2⟩ | ⟨g, cap, cur, h1, _, _, h2, _⟩
 ·omega
 ·injection h1 with _ _ h3; omega

/-- What Regress returns: each row within its capacity. -/
def ListRetC (vars : List Int) (X : List Fct → Prop) (w : World) (e : Ending) (w' : World) : Prop :=
 (∃ (A : Option Addr) (c : Nat) (os : List Hd), e = .returned (.tuple #[.slice A os.length c, .nilIface]) ∧ Orl w' w.heap.size (fun b => b < w.heap.size ∨ (Value.slice A os.length c).ownBlock = some b) (.slice A os.length c) os ∧ (hls os).Nodup ∧ (∀ z, z ∈ hls os ↔ X z) ∧ (∀ z ∈ hls os, faB vars z = true) ∧ os.length ≤ 1024 ∧ ∀ k, k < os.length → (hd os k).l.length ≤ (hd os k).c) ∨
 (e = .returned (.tuple #[.slice none 0 0, .iface 49 (.int .i64 5)]) ∧ 1025 ≤ npV vars)
theorem ListRetC.ret {vars : List Int} {X : List Fct → Prop} {w w' : World} {e : Ending} (h : ListRetC vars X w e w') : ListRet vars X w e w' := by
 rcases h with ⟨A, c, os, h1, h2, h3, h4, h5, h6, _⟩ | h
 ·exact .inl ⟨A, c, os, h1, h2, h3, h4, h5, h6⟩
 ·exact .inr h
theorem hd_set {us : List Hd} {i : Nat} {x : Hd} {k : Nat} (hi : i < us.length) : hd (us.set i x) k = if k = i then x else hd us k := by
 unfold hd
 rw [List.getD, List.getElem?_set]
 split
 ·rename_i h; subst h; simp [hi]
 ·rename_i h; rw [if_neg (fun e => h e.symm)]; rfl

set_option maxRecDepth 20000 in
set_option maxHeartbeats 32000000 in
theorem regressC_any (t : Tsk) (p : Lies) (k : Nat) (x : List Fct) (A : Option Addr) (c : Nat) (w : World) (ht : TaskAt w w.heap.size t p) (hc : chkC t = 0) (hk : k < t.ops.length) (hx : FactsAt w w.heap.size A x) (hfa : faB t.vars x = true) :
    Calls Tryz.prog 38 #[TaskV t p, .int .i64 k, .slice A x.length c] w fun e w' => ListRetC t.vars (RegS t.vars (opr t.ops k) x) w e w' ∧ Below w.heap.size w w' := by
  have HR := Lib.hid (right_of hc)
  have hnv := HR.out.nv
  obtain ⟨W0, hW0⟩ : ∃ W0, W0 = w.alloc (.cells #[.slice p.av t.vars.length p.cv, .slice p.ai t.init.length p.ci, .slice p.ag t.goal.length p.cg, .slice p.ao t.ops.length p.co] 26) := ⟨_, rfl⟩
  have HB0 := Lib.hid (show Below w.heap.size w W0 by rw [hW0]; exact (Below.refl _ _).alloc (Nat.le_refl _) _)
  have HX0 := Lib.hid (show BxI W0 w.heap.size 26 #[.slice p.av t.vars.length p.cv, .slice p.ai t.init.length p.ci, .slice p.ag t.goal.length p.cg, .slice p.ao t.ops.length p.co] by rw [hW0]; exact BxI.new _ _ _)
  have K1 := Lib.hid (preimage_any t p k x A c W0 (ht.up HB0.out) hc hk (hx.up HB0.out) hfa)
  have HFA := Lib.hid hfa
  clear ht hx hfa
  go_enter Tryz.func38, Tryz.ntmps38
  unfold TaskV at K1 ⊢
  go_wp2_with fail
  rw [← hW0]
  have HW0 := Lib.hid hW0
  clear hW0
  refine K1.out.mono ?_
  rintro e w1 ⟨hcs, hb1⟩
  have HB1 := Lib.hid (show Below w.heap.size w w1 from HB0.out.trans (hb1.mono HB0.out.size))
  have hz0 := HB0.out.size
  have hz1 := hb1.size
  clear hb1 K1
  rcases hcs with ⟨A1, c1, hs, rfl, horl, hnd, hme, hff, hl1⟩ | ⟨rfl, hnp⟩
  · have HME := Lib.hid hme
    have HFF := Lib.hid hff
    have KM := Lib.hid (minimal_any t.vars hs A1 c1 w1 (Orl.rls ⟨horl.own, fun y hy => (horl.fac y hy).sub (fun _ _ h => h.elim)⟩ (by omega) (fun _ _ _ h => h)) hff hnd hl1 (by omega))
    have HND := Lib.hid hnd
    clear horl hme hff hnd
    go_wp2_with fail
    refine KM.out.mono ?_
    rintro e w2 ⟨⟨A2, c2, os, rfl, hgr, hos⟩, hb2⟩
    have HB2 := Lib.hid (show Below w.heap.size w w2 from HB1.out.trans (hb2.mono (by omega)))
    have hol : os.length ≤ 1024 := by
      have : (hls os).length ≤ (hls hs).length := by rw [hos]; exact List.length_filter_le _ _
      rw [hls_len, hls_len] at this; omega
    have HOS := Lib.hid (show (hls os).Nodup ∧ (∀ z, z ∈ hls os ↔ RegS t.vars (opr t.ops k) x z) ∧ (∀ z ∈ hls os, faB t.vars z = true) by
      refine ⟨by rw [hos]; exact HND.out.filter _, fun z => ?_, fun z hz => ?_⟩
      · rw [hos, List.mem_filter]
        constructor
        · rintro ⟨h1, h2⟩
          exact ⟨(HME.out z).1 h1, fun y hy => (minB_iff HFF.out (HFF.out z h1)).1 h2 y ((HME.out y).2 hy)⟩
        · rintro ⟨h1, h2⟩
          have h1' := (HME.out z).2 h1
          exact ⟨h1', (minB_iff HFF.out (HFF.out z h1')).2 fun y hy => h2 y ((HME.out y).1 hy)⟩
      · rw [hos, List.mem_filter] at hz
        exact HFF.out z hz.1)
    have HGR := Lib.hid hgr
    have KS := Lib.hid (sortL_any hgr.own (fun y hy => (hgr.fac y hy).sub (fun b _ hb => .inr hb)) (by omega))
    have hz2 := hb2.size
    clear hgr hos hb2 KM
    go_wp2_with fail
    refine KS.out.mono ?_
    rintro e w3 ⟨rfl, ⟨ts, hperm, hown3⟩, hk3⟩
    have hle : ts.length = os.length := hperm.length_eq
    have hnb : ∀ b, b < w1.heap.size → ¬ (Value.slice A2 os.length c2).ownBlock = some b := fun b hb e => by have := (HGR.out.own.lt b e).1; omega
    have HB3 := Lib.hid (show Below w.heap.size w w3 from HB2.out.trans (hk3.below (fun b hb => hnb b (by omega)) (by omega)))
    have hz3 := hk3.size
    have HT3 := Lib.hid (show Orl w3 w.heap.size (fun b => b < w.heap.size ∨ (Value.slice A2 os.length c2).ownBlock = some b) (.slice A2 os.length c2) ts from ⟨by rw [hle]; exact own_base hown3 (by omega), fun y hy => by
      have hf := HGR.out.fac y (hperm.mem_iff.1 hy)
      have hm : Moves w2 w3 (fun b => b < w1.heap.size ∨ (Value.slice A2 os.length c2).ownBlock = some b) (fun b => b < w.heap.size ∨ (Value.slice A2 os.length c2).ownBlock = some b) := ⟨hk3.size, fun b hb hn => hk3.block b hb (fun e => hn (.inr e)), fun b hb h => h.elim (fun h => .inl (by omega)) .inr⟩
      exact hf.move hm⟩)
    have HPM := Lib.hid (show (hls ts).Perm (hls os) from hperm.map _)
    rw [← hle]
    rw [← hle] at HT3
    have hcap := own_cap HT3.out.own
    clear hperm hown3 hk3 KS hnb
    go_wp2_with fail
    go_loopw [28] (fun v28 wr => ∃ (i : Nat) (us : List Hd), v28 = .int .i64 i ∧ i ≤ ts.length ∧ Hid (us.length = ts.length) ∧ Hid (hls us = hls ts) ∧ Hid (Orl wr w.heap.size (fun b => b < w.heap.size ∨ (Value.slice A2 ts.length c2).ownBlock = some b) (.slice A2 ts.length c2) us) ∧ Hid (Below w.heap.size w wr) ∧ Hid (∀ k, k < i → (hd us k).l.length ≤ (hd us k).c)) (fun v28 _ => ts.length - (intOf v28).toNat)
    case atStart => exact ⟨0, ts, rfl, by omega, Lib.hid rfl, Lib.hid rfl, HT3, HB3, Lib.hid (fun k hk => by omega)⟩
    case round =>
      clear HT3
      obtain ⟨i, us, rfl, hi, HUL, HUS, HO, HE, HCP⟩ := hrel
      obtain ⟨wt, rfl⟩ : ∃ wt : World, wt = wr := ⟨_, rfl⟩
      have hzt := HE.out.size
      by_cases hlt : i < ts.length
      · have hiu : i < us.length := by rw [HUL.out]; exact hlt
        have hown : wt.ownsRow w.heap.size 23 1 (.slice A2 ts.length c2) ts.length (us.map Hd.v) := by have := HO.out.own; rw [HUL.out] at this; exact this
        obtain ⟨g, hg⟩ : ∃ g, A2 = some ⟨g, 0, none⟩ := by
          rcases hown.2 with ⟨h1, h2⟩ | ⟨g, cap, cur, h1, _⟩
          · omega
          · injection h1 with h1; exact ⟨g, h1⟩
        have hown' := hown
        rw [hg] at hown'
        have hgl := hown'.lt g rfl
        have d1 := own_cell hown' (i := i) (u := (hd us i).v) (by rw [List.getElem?_map, hd_get hiu]; rfl)
        have df := own_frz hown' i
        have hfx := HO.out.fac _ (hd_mem hiu)
        obtain ⟨y, hy⟩ : ∃ y, y = hd us i := ⟨_, rfl⟩
        rw [← hy] at d1 hfx
        have HY := Lib.hid hy
        have HOW := Lib.hid hown'
        have hyf : faB t.vars y.l = true := HOS.out.2.2 _ ((HPM.out.mem_iff).1 (by rw [← HUS.out, hy]; exact List.mem_map.2 ⟨_, hd_mem hiu, rfl⟩))
        have hyl : y.l.length ≤ 1000 := by have := fa_len hyf; omega
        have KL := Lib.hid (cloneFac_any y.l y.a y.c wt hfx.at_ (by omega))
        have HIU := Lib.hid hiu
        rw [hg]
        have HG := Lib.hid hg
        unfold Hd.v at d1
        clear hy hfx hown hown' hyf hg hiu
        go_wp2_with fail
        refine KL.out.mono ?_
        rintro e w5 ⟨⟨A5, c5, rfl, hown5⟩, hb5⟩
        have HF5 := Lib.hid (show Fac w5 (fun b => b < wt.heap.size) A5 y.l by
          obtain ⟨A', c', e, h⟩ := own_facV hown5 (by omega) (bad := fun b => b < wt.heap.size) (fun g hg hb => by have := (hown5.lt g hg).1; omega)
          injection e with e1 _ _
          rw [e1]; exact h)
        have HB5 := Lib.hid hb5
        have HC5 := Lib.hid (own_cap hown5)
        have HOW5 := Lib.hid (own_below HOW.out hb5)
        have d2 := (hb5.cell (p := ⟨g, i, none⟩) hgl.2).trans d1
        have df2 := own_frz HOW5.out i
        have hz5 := hb5.size
        clear hown5 hb5 KL d1 df
        have hg5 : g < w5.heap.size := by omega
        have HN := Lib.hid (show Orl (w5.setCell ⟨g, i, none⟩ (.slice A5 y.l.length c5)) w.heap.size (fun b => b < w.heap.size ∨ (Value.slice A2 ts.length c2).ownBlock = some b) (.slice A2 ts.length c2) (us.set i ⟨A5, c5, y.l⟩) by
          have hm : Moves w5 (w5.setCell ⟨g, i, none⟩ (.slice A5 y.l.length c5)) (fun b => b < w.heap.size ∨ (Value.slice A2 ts.length c2).ownBlock = some b) (fun b => b < w.heap.size ∨ (Value.slice A2 ts.length c2).ownBlock = some b) := Moves.set (bad := fun b => b < w.heap.size ∨ (Value.slice A2 ts.length c2).ownBlock = some b) (p := ⟨g, i, none⟩) _ (.inr (by rw [HG.out]; rfl))
          refine ⟨?_, fun z hz => ?_⟩
          · have := own_putAt HOW5.out (i := i) (.slice A5 y.l.length c5)
            rw [List.length_set, HUL.out, HG.out, List.map_set]
            exact this
          · rcases List.mem_or_eq_of_mem_set hz with h1 | h1
            · exact ((HO.out.fac z h1).up HB5.out).move hm
            · subst h1
              exact (HF5.out.sub (fun b _ hb => hb.elim (fun h => by omega) (fun h => by rw [HG.out] at h; have : g = b := by simpa [Value.ownBlock] using h
                                                                                         omega))).move hm)
        have HUS2 := Lib.hid (show hls (us.set i ⟨A5, c5, y.l⟩) = hls ts by
          rw [← HUS.out]
          unfold hls
          rw [List.map_set]
          apply List.ext_getElem
          · simp
          · intro m h1 h2
            rw [List.getElem_set]
            split
            · rename_i e
              subst e
              have := hls_get HIU.out
              unfold hls at this
              rw [this, HY.out]
            · rfl)
        go_wp2
        go_roundw
        case rel => exact ⟨i + 1, us.set i ⟨A5, c5, y.l⟩, by go_num, by omega, Lib.hid (by rw [List.length_set]; exact HUL.out), HUS2, Lib.hid (by have h := HN.out; rw [HG.out] at h; exact h), Lib.hid ((HE.out.trans (HB5.out.mono hzt)).setCell (by show w.heap.size ≤ g; omega) _), Lib.hid (fun k hk => by
          rw [hd_set HIU.out]
          split
          · exact HC5.out
          · rename_i hne; exact HCP.out k (by omega))⟩
        case measure => simp [intOf]; omega
      · have HFIN := Lib.hid (show (hls us).Nodup ∧ (∀ z, z ∈ hls us ↔ RegS t.vars (opr t.ops k) x z) ∧ (∀ z ∈ hls us, faB t.vars z = true) by
          rw [HUS.out]
          exact ⟨(HPM.out.nodup_iff).2 HOS.out.1, fun z => (HPM.out.mem_iff).trans (HOS.out.2.1 z), fun z hz => HOS.out.2.2 z ((HPM.out.mem_iff).1 hz)⟩)
        have HOF := Lib.hid (show Orl wt w.heap.size (fun b => b < w.heap.size ∨ (Value.slice A2 us.length c2).ownBlock = some b) (.slice A2 us.length c2) us by have := HO.out; rw [← HUL.out] at this; exact this)
        have hul : us.length ≤ 1024 := by rw [HUL.out]; omega
        go_wp2
        refine bodyPost_ret (v := .tuple #[.slice A2 ts.length c2, .nilIface]) (by simp [results, Tryz.results38, go_sem, hle]) rfl ⟨.inl ⟨A2, c2, us, by rw [HUL.out], HOF.out, HFIN.out.1, HFIN.out.2.1, HFIN.out.2.2, hul, fun k hk => HCP.out k (by have := HUL.out; omega)⟩, HE.out⟩
  · go_wp2
    refine bodyPost_ret (v := .tuple #[.slice none 0 0, .iface 49 (.int .i64 5)]) (by simp [results, Tryz.results38, go_sem]) rfl ⟨.inr ⟨rfl, hnp⟩, HB1.out⟩
theorem regress_any (t : Tsk) (p : Lies) (k : Nat) (x : List Fct) (A : Option Addr) (c : Nat) (w : World) (ht : TaskAt w w.heap.size t p) (hc : chkC t = 0) (hk : k < t.ops.length) (hx : FactsAt w w.heap.size A x) (hfa : faB t.vars x = true) :
  Calls Tryz.prog 38 #[TaskV t p, .int .i64 k, .slice A x.length c] w fun e w' => ListRet t.vars (RegS t.vars (opr t.ops k) x) w e w' ∧ Below w.heap.size w w' :=
 (regressC_any t p k x A c w ht hc hk hx hfa).mono fun e w' h => ⟨h.1.ret, h.2⟩
end

end Go.Proofs.YtlkebhiaimijiaaGreatDoor
